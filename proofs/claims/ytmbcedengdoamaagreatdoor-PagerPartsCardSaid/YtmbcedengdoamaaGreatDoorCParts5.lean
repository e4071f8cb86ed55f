/- Texts LpC, RsK, RsL, RsM, RsN, RsO, RsP, RsQ, DkE, FormsX, FormsM, LpD, LpE, LwM, RsR, FormsL, LpA, PmF, LpF, LpG, PmG, PmH, PmI, LpH, PmJ, PrP, RsS: contracts of the program's functions, one behind the other. Conditions: those that stand in each line. -/
import Derived.Test.YtmbcedengdoamaaGreatDoorCParts4
import Derived.Test.YtmbcedengdoamaaGreatDoorCParts3
import Derived.Test.YtmbcedengdoamaaGreatDoorCParts1
import Derived.Test.YtmbcedengdoamaaGreatDoorProg
import Derived.KernelRfl
import Derived.Test.YtmbcedengdoamaaGreatDoorCParts2
import Derived.Lib.SlBytesConst
section
set_option linter.unusedVariables false
set_option linter.unusedSimpArgs false
namespace Go.Proofs.YtmbcedengdoamaaGreatDoor
open Go Go.Pt
def zrs (n:Nat):List Value:=List.replicate n (.int .u8 0)
theorem qj1 (n:Nat):Builtin.zeroCells #[.int .u8 0] n=(zrs n).toArray:=by
 unfold Builtin.zeroCells zrs
 apply Array.ext'
 have h1:(#[Value.int .u8 0]:Array Value).size=1:=rfl
 simp only [h1,Nat.mul_one,Array.toList_map,Array.toList_range]
 rw [List.eq_replicate_iff]
 refine ⟨by simp,fun b hb=>?_⟩
 obtain ⟨i,_,rfl⟩:=List.mem_map.1 hb
 rw [Nat.mod_one]
 rfl
section
variable {P:Program} (w:World)
theorem qhZ (t tx ty e:TypeId) (i:TypeInfo) (z:Value) {kd:IntKind} (ht:P.underlying t=some (.slice e)) (hk:P.underlying tx=some (.int kd)) (hi:P.info? e=some i) (hz:i.zero=some z) (hzc:z.cells = #[.int .u8 0]) (hsz:i.size=1) (hby:i.bytes=1)
  (b off sLen sCap n:Nat) (hn:n<=100000) (hroom:sLen+n<=sCap) (hc:∀ j,j<n->(w.cell? ⟨b,off+sLen+j,none⟩).isSome=true) (hf:∀ j,j<n->w.frozen? ⟨b,off+sLen+j,none⟩=false) :
  (Builtin.append_ #[t,tx] ty #[.slice (some ⟨b,off,none⟩) sLen sCap,.int .i64 n]).run P w=.ok (.slice (some ⟨b,off,none⟩) (sLen+n) sCap) (w.setCells b (off+sLen) (zrs n)):=by
 have hst:=run_storeCells_cells (P:=P) b (off+sLen) (zrs n) 0 w (by simpa [zrs] using hc) (by simpa [zrs] using hf) (fun u hu=>by rw [List.eq_of_mem_replicate hu]; rfl)
 simp only [Nat.add_zero] at hst
 have hw:IntKind.wrap .i64 (n:Int)=n:=wi' _ (by omega)
 have h0:¬ ((n:Int)<0):=by omega
 have h48:¬ (281474976710656<(n:Int)):=by omega
 have hai:∀ w:World,(asIntOf (.int .i64 (n:Int))).run P w=.ok (.i64,(n:Int)) w:=fun w=>rfl
 by_cases hn0:n=0
 ·subst hn0
  have e0:zrs 0=[]:=rfl
  rw [e0] at hst ⊢
  simp only [Nat.add_zero] at hroom
  have hai0:∀ w:World,(asIntOf (.int .i64 0)).run P w=.ok (.i64,0) w:=fun w=>rfl
  have hw0:IntKind.wrap .i64 0=0:=wi' _ (by decide)
  simp [Builtin.append_,run_underlying ht,run_underlying hk,sizeOf,typeInfo,zeroValue,hi,hz,hzc,hsz,hby,asInt,hai0,Result.andThen_ok,hw0,hroom,Addr.add_lit,hst]
 ·simp [Builtin.append_,run_underlying ht,run_underlying hk,sizeOf,typeInfo,zeroValue,hi,hz,hzc,hsz,hby,asInt,hai,Result.andThen_ok,hw,h0,h48,hn0,hroom,qj1,Addr.add_lit,hst]
theorem qh7 (t tx ty e:TypeId) (i:TypeInfo) (z:Value) {kd:IntKind} (ht:P.underlying t=some (.slice e)) (hk:P.underlying tx=some (.int kd)) (hi:P.info? e=some i) (hz:i.zero=some z) (hzc:z.cells = #[.int .u8 0]) (hsz:i.size=1) (hby:i.bytes=1)
  (base:Option Addr) (sLen sCap n:Nat) (olds:List Value) (hold:(Builtin.firstCells 1 sLen (.slice base sLen sCap)).run P w.drew=.ok olds.toArray w.drew) (hn:n<=100000) (hn1:0<n) (hg:sCap<sLen+n) (h63:((sLen+n:Nat):Int)<=9223372036854775807) (hfit:Builtin.nextslicecap (sLen+n) sCap<=281474976710656) :
  (Builtin.append_ #[t,tx] ty #[.slice base sLen sCap,.int .i64 n]).run P w =
   .ok (.slice (some ⟨w.heap.size,0,none⟩) (sLen+n) (grownCap w (sLen+n) sCap e)) (w.drew.alloc (.cells ((olds++zrs n).toArray++Builtin.zeroCells z.cells (grownCap w (sLen+n) sCap e-(sLen+n))) e)):=by
 have hw:IntKind.wrap .i64 (n:Int)=n:=wi' _ (by omega)
 have h0:¬ ((n:Int)<0):=by omega
 have h48:¬ (281474976710656<(n:Int)):=by omega
 have hai:∀ w:World,(asIntOf (.int .i64 (n:Int))).run P w=.ok (.i64,(n:Int)) w:=fun w=>rfl
 have hnr:¬ (sLen+n<=sCap):=by omega
 have h63':¬ (9223372036854775807<((sLen:Int)+(n:Int))):=by omega
 have h48':¬ (281474976710656<Builtin.nextslicecap (sLen+n) sCap):=by omega
 have hn0:¬ n=0:=by omega
 simp [Builtin.append_,run_underlying ht,run_underlying hk,sizeOf,typeInfo,zeroValue,hi,hz,hzc,hsz,hby,asInt,hai,Result.andThen_ok,hw,h0,h48,hn0,hnr,h63',h48',qj1,Question.forced,hold,newRow,grownCap]
end
theorem qrn (n:Nat):(zs n).flatMap encB=zrs n:=by
 unfold zs zrs
 induction n with
 | zero=>rfl
 | succ n ih=>rw [List.replicate_succ,List.flatMap_cons,ih,List.replicate_succ]; rfl
theorem qvp {P:Program} {w:World} {t tx ty e:TypeId} {i:TypeInfo} {z:Value} {kd:IntKind} {s:Sl} {l:List Int} {B:List Nat} {n:Nat} {K:Sl->World->Prop} (h:Buf encB 1 w s l B) (hne:s.a≠none)
  (ht:P.underlying t=some (.slice e)) (hk:P.underlying tx=some (.int kd)) (hi:P.info? e=some i) (hz:i.zero=some z) (hzc:z.cells = #[.int .u8 0]) (hsz:i.size=1) (hby:i.bytes=1) (hn:n<=100000) (hl:l.length<=1000000)
  (kk:∀ s' B' w',Buf encB 1 w' s' (l++zs n) B'->Fr B w w'->(∀ b∈B',b∈B\/w.heap.size<=b)->K s' w') :
  Pt.run [Ty1.one Cell.slice] ((Builtin.append_ #[t,tx] ty #[.slice s.a s.len s.cap,.int .i64 n]).run P w) K:=by
 rcases h with ⟨rfl,rfl,rfl⟩ | ⟨b,o,cs,T,rfl,ho0,ha,hb,h1,h2,h3,h4⟩
 ·exact absurd rfl hne
 have hfl:=qaT qau
 have hnz:(zs n).length=n:=qaC n
 obtain ⟨a,len,cap⟩:=s
 simp only at ha h1 h2 h3
 subst ha
 subst h1
 rw [Nat.mul_one] at h3
 by_cases hroom:l.length+n<=cap
 ·refine qdz ⟨_,_,_⟩ _ (qhZ w t tx ty e i z ht hk hi hz hzc hsz hby b o l.length cap n hn hroom (fun j hj=>?_) (fun j hj=>?_)) ?_
  ·rw [qaj hb]
   simp [show o+l.length+j<cs.size by omega]
  ·simp [World.frozen?,hb]
  ·rw [qcx hb]
   refine kk _ [b] _ (.inr ⟨b,o,_,T,rfl,ho0,rfl,by rw [qaF _ _ _ _ (qab hb),if_pos rfl],by simp [qaC],by dsimp only; omega,by rw [qby,Nat.mul_one]; exact h3,?_⟩) (qbH (qab hb) _) (fun c hc=>.inl hc)
   have hzl:(zrs n).length=n:=by simp [zrs]
   rw [qav _ _ _ (by rw [hzl]; omega),List.length_append,Nat.add_mul,List.flatMap_append,<- h4,qrn]
   have:=qpp cs.toList (zrs n) (cs.toList.drop (o+l.length+(zrs n).length)) o l.length (by simp; omega)
   rw [hzl] at this ⊢
   rw [hnz,Nat.mul_one,Nat.mul_one]
   exact this
 ·have hn1:0<n:=by omega
  have hold:(Builtin.firstCells 1 l.length (.slice (some ⟨b,o,none⟩) l.length cap)).run P w.drew=.ok (l.flatMap encB).toArray w.drew:=run_firstCells_some _ _ _ _ _ _ _ (hfl l) (fun j u hj=>by
   rw [Addr.add_mk]
   show w.cell? _=_
   rw [qaj hb]
   have hjl:j<l.length*1:=by
    have:=(List.getElem?_eq_some_iff.1 hj).1
    rw [hfl] at this; exact this
   rw [<- h4,List.getElem?_take,if_pos hjl,List.getElem?_drop] at hj
   simpa using hj)
  have hfit:=growslice_fits (bytes:=1) (show cap<l.length+n by omega) (by omega)
  rw [Nat.mul_one] at hfit
  refine qdz ⟨_,_,_⟩ _ (qh7 w t tx ty e i z ht hk hi hz hzc hsz hby (some ⟨b,o,none⟩) l.length cap n _ hold hn hn1 (by omega) (by omega) hfit) ?_
  have hge:=grownCap_ge w (l.length+n) cap e
  have hzl:(zrs n).length=n:=by simp [zrs]
  refine kk _ [w.heap.size] _ (Buf.fresh qau (b:=w.heap.size) (T:=e) (cs:=((l.flatMap encB)++zrs n).toArray++Builtin.zeroCells z.cells (grownCap w (l.length+n) cap e-(l.length+n))) ?_ (by rw [List.length_append,hnz]) hge ?_ ?_) ?_ ?_
  ·rw [qbq]; exact if_pos rfl
  ·rw [Array.size_append,qgP,hzc,List.size_toArray,List.length_append,hfl,hzl]
   show grownCap w (l.length+n) cap e*1<=l.length*1+n+(grownCap w (l.length+n) cap e-(l.length+n))*1
   generalize grownCap w (l.length+n) cap e=g at hge
   omega
  ·rw [Array.toList_append,List.take_append_of_le_length (by simp [hfl,hnz,hzl]),List.take_of_length_le (by simp [hfl,hnz,hzl]),List.flatMap_append,qrn]
  ·exact (Fr.refl _ w).drew.alloc _
  ·intro b hb; simp at hb; subst hb; exact .inr (Nat.le_refl _)
end Go.Proofs.YtmbcedengdoamaaGreatDoor
end
section
set_option linter.unusedVariables false
set_option linter.unusedSimpArgs false
namespace Go.Proofs.YtmbcedengdoamaaGreatDoor
open Go Go.Pt
attribute [local irreducible] ld ldA ldV fld fldA newZ st new idx idxS idxA slc slcS slcP mkS chk nn call callV inv run runQ runU join loop held ext rng undefer s2a nxt ent IntKind.wrap
def insF {β:Type} (n:Int) (v:β):List (Int×β)->List (Int×β)
 | []=>[(n,v)]
 | a::l=>if a.1>n then (n,v)::a::l else a::insF n v l
theorem qle {β:Type} {n:Int} {v:β}:∀ {A B:List (Int×β)},(∀ e∈A,¬ e.1>n)->insF n v (A++B)=A++insF n v B
 | [],B,_=>rfl
 | a::A,B,h=>by
  rw [List.cons_append,insF,if_neg (h a (by simp)),qle (fun e he=>h e (by simp [he]))]
  rfl
def makeR (M:PgM) (kind:Int) (body:List Int):(Int×Int)×PgM:=
 if M.over then ((0,7),M) else if body.length>500 then ((0,3),M) else
 match M.free with
 | []=>((0,6),M)
 | n::r=>((n,0),{ M with free:=r,fresh:=insF n (kind,body) M.fresh })
theorem qtJ:∃ i,Tryz.prog.info? 165=some i/\i.zero=some (.agg #[.int .u32 0,.int .u8 0,.string ⟨#[]⟩])/\i.size=3/\i.bytes=24:=qd1 (by kernel_rfl)
abbrev BufP (w:World) (s:Sl) (l:List (Int×Int×List Int)) (B:List Nat):Prop:=Buf encPage 3 w s l B
theorem qoL {w:World} {s:Sl} {l:List (Int×Int×List Int)} {B:List Nat} {e:Int×Int×List Int} {K:Sl->World->Prop} (h:BufP w s l B) (hl:l.length<=1000000)
  (kk:∀ s' B' w',BufP w' s' (l++[e]) B'->Fr B w w'->(∀ b∈B',b∈B\/w.heap.size<=b)->K s' w') :
  Pt.new (.cells #[.int .u32 e.1,.int .u8 e.2.1,.string (strOf e.2.2)] 165) w fun r w1=>Pt.run [Ty1.one Cell.slice] ((Builtin.append_ #[59,59] 59 #[.slice s.a s.len s.cap,.slice (some ⟨r,0,none⟩) 1 1]).run Tryz.prog w1) K:=by
 obtain ⟨i,hi,hz,hsz,hby⟩:=qtJ
 exact Buf.push (e:=165) (x:=e) h qbw (qk1 e) (by kernel_rfl) hi hz hsz rfl rfl (by rw [hby]; omega) (by omega) kk
theorem que {S:List Nat} {w:World} {s src:Sl} {l ys:List (Int×Int×List Int)} {B:List Nat} {K:Sl->World->Prop} (h:BufP w s l B) (hr:Rds encPage 3 S w src ys) (hl:l.length+ys.length<=1000000)
  (kk:∀ s' B' w',BufP w' s' (l++ys) B'->Fr B w w'->(∀ b∈B',b∈B\/w.heap.size<=b)->K s' w') :
  Pt.run [Ty1.one Cell.slice] ((Builtin.append_ #[59,59] 59 #[.slice s.a s.len s.cap,.slice src.a src.len src.cap]).run Tryz.prog w) K:=by
 obtain ⟨i,hi,hz,hsz,hby⟩:=qtJ
 have hlen:=hr.1
 refine Buf.appSrc (e:=165) h qbw (by kernel_rfl) hi hz hsz rfl (qhs (e':=165) hr qbw qk1 (by kernel_rfl)) hlen (by rw [hby]; omega) (by omega) fun s' B' w' b' f' n' _=>kk s' B' w' b' f' n'
theorem Rds.keep {α:Type} {enc:α->List Value} {k r:Nat} {T:List Nat} {w w':World} {s:Sl} {l:List α} (h:Rds enc k T w s l) (hr:r∈T) (f:Fr [r] w w'):Rds enc k T w' s l:=
 h.frame (f.mono fun i hi _=>by rw [List.mem_singleton.1 hi]; exact hr) fun b hb=>.inl hb
theorem Rds.less {α:Type} {enc:α->List Value} {k:Nat} {S T:List Nat} {w:World} {s:Sl} {l:List α} (h:Rds enc k (T++S) w s l):Rds enc k S w s l:=
 h.weak fun b hb=>.inl (List.mem_append_right _ hb)
theorem Buf.apart {α:Type} {enc:α->List Value} {k r n:Nat} {B:List Nat} {w w':World} {s:Sl} {l:List α} (h:Buf enc k w s l B) (hB:∀ b∈B,n<=b) (hr:r<n) (f:Fr [r] w w'):Buf enc k w' s l B:=
 h.frame f fun b hb1 hb2=>by have:=hB b hb1; rw [List.mem_singleton.1 hb2] at this; omega
section
variable {S:List Nat} {w:World} {x:RV} {D:DiskM} {M:PgM}
theorem qlp {kind:Int} {l:List Int} {K:List Value×Int×Int->World->Prop} (h:RP S w x D M) (hS:∀ b∈S,b<w.heap.size) (hl:M.fresh.length<=100000) (hf:M.free.length<=100000)
  (hk:∀ x' w',RP S w' x' D (makeR M kind l).2->Fr [] w w'->K (refV x',(makeR M kind l).1.1,(makeR M kind l).1.2) w') :
  call Tryz.prog 48 [.agg (refV x).toArray,.int .u8 kind,.string (strOf l)] [.raw,.one (.int .u32),.one (.int .i64)] w K:=by
 refine qeg (p:=refV x) ?_
 unfold qcc
 have hx:=h.ok
 refine Own.new' (Own.start [] w) fun r1 w1 e1 f1 ho=>?_
 refine Own.newZ ho qbh fun r3 w2 e2 ho=>?_
 have same:∀ {a e:Int} {w':World},makeR M kind l=((a,e),M)->Fr [] w w'->K (refV x,a,e) w':=fun he f=>by
  have:=hk x _ (by rw [he]; exact h.frame0 f) f
  rw [he] at this
  exact this
 refine Own.ld (c:=.bool) ho 1 rfl x.over (qda hx) ?_
 refine qaa (fun hc=>?_) (fun hc=>?_)
 ·exact qbI (K:=fun vs w=>K (vs,0,7) w) ho 1 0 rfl rfl qaq hx fun w4 f4 _=>same (by rw [makeR,if_pos (by rw [<- h.over]; exact hc)]) f4
 have ho0:¬ M.over=true:=by rw [<- h.over,hc]; decide
 rw [qai]
 refine qaa (fun hc=>?_) (fun hc=>?_)
 ·have hlong:l.length>500:=by have:=of_decide_eq_true hc; omega
  exact qbI (K:=fun vs w=>K (vs,0,3) w) ho 1 0 rfl rfl qaq hx fun w4 f4 _=>same (by rw [makeR,if_neg ho0,if_pos hlong]) f4
 have hsh:¬ l.length>500:=by have:=of_decide_eq_false hc; omega
 refine Own.ld (c:=.slice) ho 1 rfl x.sf (qd7 hx) ?_
 have hfl:x.sf.len=M.free.length:=h.free.1
 refine qaa (fun hc=>?_) (fun hc=>?_)
 ·have he:M.free=[]:=by
   have:(x.sf.len:Int)=0:=by simpa using hc
   exact List.length_eq_zero_iff.1 (by omega)
  exact qbI (K:=fun vs w=>K (vs,0,6) w) ho 1 0 rfl rfl qaq hx fun w4 f4 _=>same (by rw [makeR,if_neg ho0,if_neg hsh,he]) f4
 have hne:M.free.length≠0:=by
  have:¬ (x.sf.len:Int)=0:=by simpa using hc
  omega
 obtain ⟨n,r,hnr⟩:∃ n r,M.free=n::r:=by
  cases hM:M.free with
  | nil=>rw [hM] at hne; exact absurd rfl hne
  | cons n r=>exact ⟨n,r,rfl⟩
 have hmk:makeR M kind l=((n,0),{ M with free:=r,fresh:=insF n (kind,l) M.fresh }):=by rw [makeR,if_neg ho0,if_neg hsh,hnr]
 have h2:=h.opened ho
 refine Own.ld (c:=.slice) ho 1 rfl x.sf (qd7 hx) ?_
 refine Rd.at h2.free 0 rfl (by rw [hnr]; rfl) ?_
 refine Own.ld (c:=.slice) ho 1 rfl x.sf (qd7 hx) ?_
 refine Rds.drop h2.free 1 rfl (by rw [hnr,List.length_cons]; omega) (by omega) fun s20 hs20=>?_
 rw [hnr] at hs20
 refine Own.st' ho 1 rfl _ (qpS (s:=s20) hx) rfl (by rw [List.size_toArray,qaw hx]; exact Nat.le_of_ble_eq_true rfl) fun w3 ho3 f3=>?_
 have hx3:RV.Ok { x with sf:=s20 }:=⟨hx.sup,hx.roots⟩
 have hs3:=Rds.keep hs20 (r:=r1) (by simp) f3
 have h3:=h.frame0 ho3.fr
 have hfr3:=h3.fresh
 have hfrl:=hfr3.1
 refine Own.new' ho3 fun r22 w4 e4 f4 ho4=>?_
 have done:∀ {s:Sl} {B:List Nat} {w5:World},BufP w5 s (insF n (kind,l) M.fresh) B->Fr [] w3 w5->(∀ b∈B,w3.heap.size<=b)->
   st ⟨r1,39,none⟩ [.slice s.a s.len s.cap] w5 (fun w55=>ldV 64 ⟨r1,0,none⟩ w55 fun vs56=>chk (vs56.length=64) (st ⟨r3,0,none⟩ vs56 w55 fun w57=>ldV 64 ⟨r3,0,none⟩ w57 fun vs58=>K (vs58,n,0) w57)):=by
  intro s B w5 hb f5 hB
  have ho5:=ho3.frame0 f5
  refine Own.st' ho5 1 rfl _ (qjW (s:=s) hx3) rfl (by rw [List.size_toArray,qaw hx3]; exact Nat.le_of_ble_eq_true rfl) fun w6 ho6 f6=>?_
  have hx6:RV.Ok { x with sf:=s20,sfr:=s }:=⟨hx.sup,hx.roots⟩
  have l1:=qab (ho3.at (i:=1) rfl)
  have l3:=qab (ho3.at (i:=0) rfl)
  refine qbI (x:={ x with sf:=s20,sfr:=s }) (x0:=rvZ) (K:=fun vs w=>K (vs,n,0) w) ho6 1 0 rfl rfl qaq hx6 fun w7 f7 g7=>?_
  have b6:=Buf.apart (Buf.apart hb hB l1 f6) hB l3 g7
  have h7:=h.frame0 f7
  have hsz:=ho3.fr.size
  have fs7:Rd S w7 s20 r:=Rds.less (Rds.keep (Rds.keep (Rds.frame0 hs3 f5) (r:=r1) (by simp) f6) (r:=r3) (by simp) g7)
  have:=hk { x with sf:=s20,sfr:=s } w7 (by rw [hmk]; exact ⟨h7.disk,h7.sup,h7.lists,h7.named,h7.turn,h7.over,fs7,h7.deferred,b6.rds qbw fun b hb1 hb2=>by have:=hB b hb1; have:=hS b hb2; omega,h7.roots,hx6⟩) f7
  rw [hmk] at this
  exact this
 refine qag (fun y w'=>∃ (i:Nat) (B:List Nat) (o:List (Int×Int×List Int)),y.2.2=i/\i<=M.fresh.length/\BufP w' y.1 o B/\Fr [] w3 w'/\(∀ b∈B,w3.heap.size<=b)/\o.length=i+y.2.1.toNat/\
   (if y.2.1 then o++M.fresh.drop i=insF n (kind,l) M.fresh else o=M.fresh.take i/\∀ e∈M.fresh.take i,¬ e.1>n)) (fun y _=>((M.fresh.length:Int)-y.2.2).toNat)
  ⟨0,[r22],[],rfl,by omega,Buf.empty (ho4.at (i:=0) rfl),f4,by simp [e4],by simp,by simp⟩ ?_
 rintro ⟨so,dn,y⟩ w5 ⟨i,B,o,hy,hi,hb,f5,hB,hol,hinv⟩ X hX
 simp only at hy hb hinv
 subst hy
 dsimp only
 have ho5:=ho3.frame0 f5
 have hfr5:=hfr3.frame0 f5
 refine Own.ld (c:=.slice) ho5 1 rfl x.sfr (qbt hx3) ?_
 rw [hfrl]
 refine qaa (fun hc=>?_) (fun hc=>?_)
 ·have hil:i<M.fresh.length:=by have:=of_decide_eq_true hc; omega
  refine qaf (fun t w'=>∃ (B:List Nat) (o2:List (Int×Int×List Int)),BufP w' t.1 o2 B/\Fr [] w3 w'/\(∀ b∈B,w3.heap.size<=b)/\o2.length=i+t.2.toNat/\
   (if t.2 then o2++M.fresh.drop i=insF n (kind,l) M.fresh else o2=M.fresh.take i/\∀ e∈M.fresh.take (i+1),¬ e.1>n)) ?_ ?_
  ·refine qaf (fun b w'=>b=decide (dn=false/\M.fresh[i].1>n)/\w'=w5) ?_ ?_
   ·refine qaa (fun hc2=>?_) (fun hc2=>?_)
    ·have hdn:dn=false:=by simpa using hc2
     refine Own.ld (c:=.slice) ho5 1 rfl x.sfr (qbt hx3) ?_
     obtain ⟨hn2,bb,oo,ha,_,cs,T,fr,hbk,hcs⟩:=hfr5.at i (List.getElem?_eq_getElem hil)
     have c0:cs[oo+i*3]?=some (.int .u32 M.fresh[i].1):=by
      have:=congrArg (·[0]?) hcs
      simpa [encPage] using this
     refine qaX ha ⟨by omega,by omega⟩ ?_
     rw [Int.toNat_natCast]
     refine qae (c:=.int .u32) hbk M.fresh[i].1 c0 ?_
     refine ⟨?_,rfl⟩
     rw [hdn]
     simp
    ·have hdn:dn=true:=by simpa using hc2
     exact ⟨by rw [hdn]; simp,rfl⟩
   rintro b w6 ⟨rfl,rfl⟩
   refine qaa (fun hc2=>?_) (fun hc2=>?_)
   ·obtain ⟨hdn,hgt⟩:=of_decide_eq_true hc2
    subst hdn
    simp only [Bool.false_eq_true,if_false] at hinv
    obtain ⟨rfl,hle⟩:=hinv
    refine qoL (e:=(n,kind,l)) hb (by rw [List.length_take]; omega) fun s' B' w7 hb7 f7 n7=>?_
    refine ⟨B',_,hb7,f5.trans' f7 (fun b hb=>.inr (hB b hb)),fun b hb=>?_,?_,?_⟩
    ·rcases n7 b hb with h | h
     ·exact hB b h
     ·have:=f5.size; omega
    ·rw [List.length_append,List.length_take,List.length_cons,List.length_nil]; show _=i+1; omega
    ·rw [if_pos rfl]
     conv=>rhs; rw [<- List.take_append_drop i M.fresh]
     rw [qle hle,List.drop_eq_getElem_cons hil,insF,if_pos hgt,List.append_assoc]
     rfl
   ·have hno:=of_decide_eq_false hc2
    cases dn with
    | true=>
     simp only [if_true] at hinv
     exact ⟨B,o,hb,f5,hB,hol,by rw [if_pos rfl]; exact hinv⟩
    | false=>
     simp only [Bool.false_eq_true,if_false] at hinv
     obtain ⟨rfl,hle⟩:=hinv
     refine ⟨B,_,hb,f5,hB,hol,?_⟩
     rw [if_neg (show ¬ false=true from Bool.false_ne_true)]
     refine ⟨rfl,fun e he=>?_⟩
     rw [List.take_succ_eq_append_getElem hil] at he
     rcases List.mem_append.1 he with he | he
     ·exact hle e he
     ·rw [List.mem_singleton.1 he]
      exact fun hgt=>hno ⟨rfl,hgt⟩
  rintro ⟨so2,dn2⟩ w6 ⟨B2,o2,hb6,f6,hB6,hol6,hinv6⟩
  simp only at hb6 hinv6
  dsimp only
  have ho6:=ho3.frame0 f6
  have hfr6:=hfr3.frame0 f6
  refine Own.ld (c:=.slice) ho6 1 rfl x.sfr (qbt hx3) ?_
  refine Rds.getA hfr6 i (cl:=[Cell.int .u32,Cell.int .u8,Cell.str]) rfl (List.getElem?_eq_getElem hil) rfl (y:=(M.fresh[i].1,M.fresh[i].2.1,strOf M.fresh[i].2.2)) rfl ?_
  have hd2:=Bool.toNat_le dn2
  dsimp only at hol6
  refine qoL (e:=M.fresh[i]) hb6 (by omega) fun s' B' w7 hb7 f7 n7=>?_
  rw [wi' _ (by omega)]
  refine hX _ _ ⟨i+1,B',_,by simp,by omega,hb7,f6.trans' f7 (fun b hb=>.inr (hB6 b hb)),fun b hb=>?_,by rw [List.length_append,List.length_cons,List.length_nil,hol6]; show i+dn2.toNat+1=i+1+dn2.toNat; omega,?_⟩ (by dsimp only; omega)
  ·rcases n7 b hb with h | h
   ·exact hB6 b h
   ·have:=f6.size; omega
  ·dsimp only
   cases dn2 with
   | true=>
    simp only [if_true] at hinv6 ⊢
    rw [<- hinv6,List.drop_eq_getElem_cons hil,List.append_assoc]
    rfl
   | false=>
    simp only [Bool.false_eq_true,if_false] at hinv6 ⊢
    rw [hinv6.1,List.take_succ_eq_append_getElem hil]
    refine ⟨rfl,fun e he=>hinv6.2 e ?_⟩
    rw [List.take_succ_eq_append_getElem hil]
    exact he
 have hie:i=M.fresh.length:=by have:=of_decide_eq_false hc; omega
 subst hie
 refine qaf (fun s w'=>∃ B,BufP w' s (insF n (kind,l) M.fresh) B/\Fr [] w3 w'/\∀ b∈B,w3.heap.size<=b) ?_ ?_
 ·refine qaa (fun hc2=>?_) (fun hc2=>?_)
  ·have hdn:dn=false:=by simpa using hc2
   subst hdn
   simp only [Bool.false_eq_true,if_false] at hinv
   obtain ⟨rfl,hle⟩:=hinv
   refine qoL (e:=(n,kind,l)) hb (by rw [List.length_take]; omega) fun s' B' w7 hb7 f7 n7=>?_
   refine ⟨B',?_,f5.trans' f7 (fun b hb=>.inr (hB b hb)),fun b hb=>?_⟩
   ·have e:insF n (kind,l) M.fresh=M.fresh.take M.fresh.length++[(n,kind,l)]:=by
     have:=qle (v:=(kind,l)) (B:=[]) hle
     rw [List.append_nil,List.take_length] at this
     rw [this,List.take_length]
     rfl
    rw [e]
    exact hb7
   ·rcases n7 b hb with h | h
    ·exact hB b h
    ·have:=f5.size; omega
  ·have hdn:dn=true:=by simpa using hc2
   subst hdn
   simp only [if_true] at hinv
   rw [List.drop_length,List.append_nil] at hinv
   rw [<- hinv]
   exact ⟨B,hb,f5,hB⟩
 rintro s w6 ⟨B6,hb6,f6,hB6⟩
 exact done hb6 f6 hB6
end
section
theorem quQ {α:Type} {enc:α->List Value} {k:Nat} {w:World} {s:Sl} {l:List α} {B:List Nat} {i:Nat} {x:α} {y:Int} {K:World->Prop} (h:Buf enc k w s l B) (hl:i<l.length) (hy:y=i) (henc:∀ x,(enc x).length=k) (hone:(enc x).all Value.oneCell'=true)
  (kk:∀ w',Buf enc k w' s (l.set i x) B->Fr B w w'->K w'):idx s y k fun a=>st a (enc x) w K:=by
 subst hy
 rcases h with ⟨rfl,rfl,_⟩ | ⟨b,o,cs,T,rfl,rfl,ha,hb,h1,h2,h3,h4⟩
 ·simp at hl
 ·refine qaX ha ⟨by omega,by omega⟩ ?_
  rw [Int.toNat_natCast,Nat.zero_add]
  rw [List.drop_zero] at h4
  have hlen:=qaT henc l
  have hx:=henc x
  have hik:i*k+k<=l.length*k:=by have:=Nat.mul_le_mul_right k (show i+1<=l.length from hl); rw [Nat.add_mul] at this; omega
  have hlc:l.length*k<=cs.size:=Nat.le_trans (Nat.mul_le_mul_right k (show l.length<=s.cap by omega)) (by rw [Nat.zero_add] at h3; exact h3)
  have hsz:i*k+(enc x).length<=cs.size:=by omega
  refine qaQ hb (splice cs (i*k) (enc x)) rfl hone hsz fun w' hb' f'=>?_
  refine kk w' (.inr ⟨b,0,_,T,rfl,rfl,ha,hb',by rw [List.length_set]; exact h1,h2,by rw [qby]; exact h3,?_⟩) f'
  rw [List.drop_zero,List.length_set]
  have hsp:=qgI henc l i x hl
  have h5:(splice cs (i*k) (enc x)).toList.take (l.length*k)=(splice (l.flatMap enc).toArray (i*k) (enc x)).toList:=by
   rw [qav _ _ _ hsz,qav _ _ _ (by show _<=(l.flatMap enc).length; omega)]
   have hc2:cs.toList=l.flatMap enc++cs.toList.drop (l.length*k):=by rw [<- h4,List.take_append_drop]
   rw [hc2]
   generalize cs.toList.drop (l.length*k)=R
   show (((l.flatMap enc++R).take (i*k)++enc x++(l.flatMap enc++R).drop (i*k+(enc x).length)).take (l.length*k))=(l.flatMap enc).take (i*k)++enc x++(l.flatMap enc).drop (i*k+(enc x).length)
   have e1:(l.flatMap enc++R).take (i*k)=(l.flatMap enc).take (i*k):=List.take_append_of_le_length (by omega)
   have e2:(l.flatMap enc++R).drop (i*k+(enc x).length)=(l.flatMap enc).drop (i*k+(enc x).length)++R:=List.drop_append_of_le_length (by omega)
   rw [e1,e2,<- List.append_assoc]
   have e3:((l.flatMap enc).take (i*k)++enc x++(l.flatMap enc).drop (i*k+(enc x).length)).length=l.length*k:=by
    simp only [List.length_append,List.length_take,List.length_drop]; omega
   rw [List.take_append_of_le_length (by omega),List.take_of_length_le (by omega)]
  rw [h5,hsp]
theorem Rds.upto {α:Type} {enc:α->List Value} {k:Nat} {S:List Nat} {w:World} {s:Sl} {l:List α} (h:Rds enc k S w s l) {hi:Int} (b:Nat) {K:Sl->Prop} (hhi:hi=b) (hb:b<=l.length)
  (kk:∀ s',Rds enc k S w s' (l.take b)->K s'):slc s none (some hi) none k K:=by
 subst hhi
 obtain ⟨h1,h2,h3⟩:=h
 refine qoM ⟨by omega,by omega⟩ (kk _ ⟨by simp only [Int.toNat_natCast,List.length_take]; omega,by simp only [Int.toNat_natCast]; omega,?_⟩)
 rcases h3 with h3 | ⟨b',o,cs,T,fr,ha,hbk,hn,hc⟩
 ·exact .inl (by rw [h3]; simp)
 ·refine .inr ⟨b',o,cs,T,fr,ha,hbk,hn,fun i x hx=>hc i x ?_⟩
  rw [List.getElem?_take] at hx
  split at hx
  ·exact hx
  ·cases hx
section
variable {S:List Nat} {w:World} {x:RV} {D:DiskM} {M:PgM}
theorem qln {n kind:Int} {l:List Int} {K:List Value×Int->World->Prop} (h:RP S w x D M) (hS:∀ b∈S,b<w.heap.size) (hl:M.fresh.length<=100000)
  (hk:∀ x' w',RP S w' x' D (putV M n kind l).2->Fr [] w w'->K (refV x',(putV M n kind l).1) w') :
  call Tryz.prog 50 [.agg (refV x).toArray,.int .u32 n,.int .u8 kind,.string (strOf l)] [.raw,.one (.int .i64)] w K:=by
 refine qeE (p:=refV x) ?_
 unfold qci
 have hx:=h.ok
 refine Own.new' (Own.start [] w) fun r1 w1 e1 f1 ho=>?_
 refine Own.newZ ho qbh fun r3 w2 e2 ho=>?_
 have same:∀ {e:Int} {w':World},putV M n kind l=(e,M)->Fr [] w w'->K (refV x,e) w':=fun he f=>by
  have:=hk x _ (by rw [he]; exact h.frame0 f) f
  rw [he] at this
  exact this
 refine Own.ld (c:=.bool) ho 1 rfl x.over (qda hx) ?_
 refine qaa (fun hc=>?_) (fun hc=>?_)
 ·exact qbI (K:=fun vs w=>K (vs,7) w) ho 1 0 rfl rfl qaq hx fun w4 f4 _=>same (by rw [putV,if_pos (by rw [<- h.over]; exact hc)]) f4
 have ho0:¬ M.over=true:=by rw [<- h.over,hc]; decide
 refine Own.ldP ho 1 rfl hx ?_
 refine qgc (h.frame0 ho.fr) hl fun w3 f3=>?_
 have ho3:=ho.frame0 f3
 cases hlk:look n M.fresh with
 | none=>
  refine cond_true (by decide) ?_
  exact qbI (K:=fun vs w=>K (vs,10) w) ho3 1 0 rfl rfl qaq hx fun w4 f4 _=>same (by rw [putV,if_neg ho0,hlk]) f4
 | some q=>
  have hqn:q.1<M.fresh.length:=(List.getElem?_eq_some_iff.1 (qaI hlk).1).1
  have hq0:decide ((q.1:Int)<0)=false:=by rw [decide_eq_false_iff_not]; omega
  refine cond_false hq0 ?_
  rw [qai]
  refine qaa (fun hc=>?_) (fun hc=>?_)
  ·have hlong:l.length>500:=by have:=of_decide_eq_true hc; omega
   exact qbI (K:=fun vs w=>K (vs,3) w) ho3 1 0 rfl rfl qaq hx fun w4 f4 _=>same (by rw [putV,if_neg ho0,hlk]; exact if_pos hlong) f4
  have hsh:¬ l.length>500:=by have:=of_decide_eq_false hc; omega
  have hmk:putV M n kind l=(0,{ M with fresh:=M.fresh.set q.1 (n,kind,l) }):=by rw [putV,if_neg ho0,hlk]; exact (if_neg hsh).trans (by rw [setL,hlk])
  refine Own.new' ho3 fun r18 w4 e4 f4 ho4=>?_
  have h3:=h.frame0 ho3.fr
  refine Own.ld (c:=.slice) ho4 2 rfl x.sfr (qbt hx) ?_
  refine que (S:=S) (s:=⟨some ⟨r18,0,none⟩,0,0⟩) (src:=x.sfr) (l:=[]) (Buf.empty (ho4.at (i:=0) rfl)) (h3.fresh.frame0 f4) (by simp; omega) fun s21 B w5 hb5 f5 n5=>?_
  rw [List.nil_append] at hb5
  have hB:∀ b∈B,w3.heap.size<=b:=fun b hb=>by
   rcases n5 b hb with h | h
   ·rw [List.mem_singleton.1 h]; omega
   ·have:=f4.size; omega
  have f35:Fr [] w3 w5:=f4.trans' f5 fun b hb=>by rw [List.mem_singleton.1 hb]; exact .inr (by omega)
  have ho5:=ho3.frame0 f35
  have l1:r1<w3.heap.size:=qab (ho3.at (i:=1) rfl)
  have l3:r3<w3.heap.size:=qab (ho3.at (i:=0) rfl)
  refine Own.st' ho5 1 rfl _ (qjW (s:=s21) hx) rfl (by rw [List.size_toArray,qaw hx]; exact Nat.le_of_ble_eq_true rfl) fun w6 ho6 f6=>?_
  have hx6:RV.Ok { x with sfr:=s21 }:=⟨hx.sup,hx.roots⟩
  have hb6:=Buf.apart hb5 hB l1 f6
  refine Own.ld (c:=.slice) ho6 1 rfl s21 (qbt hx6) ?_
  refine quQ (x:=(n,kind,l)) hb6 hqn rfl qbw rfl fun w7 hb7 f7=>?_
  have hsz:=ho3.fr.size
  have ho7:=ho6.frame f7 (fun b hb=>.inr (by have:=hB b hb; omega)) (fun p hp hb=>by
   have:=hB _ hb
   simp only [List.set_cons_succ,List.set_cons_zero,List.mem_cons,List.not_mem_nil,or_false] at hp
   rcases hp with rfl | rfl
   ·exact absurd this (Nat.not_le.2 l3)
   ·exact absurd this (Nat.not_le.2 l1))
  refine qbI (x:={ x with sfr:=s21 }) (x0:=rvZ) (K:=fun vs w=>K (vs,0) w) ho7 1 0 rfl rfl qaq hx6 fun w8 f8 g8=>?_
  have b8:=Buf.apart hb7 hB l3 g8
  have h8:=h.frame0 f8
  have:=hk { x with sfr:=s21 } w8 (by rw [hmk]; exact ⟨h8.disk,h8.sup,h8.lists,h8.named,h8.turn,h8.over,h8.free,h8.deferred,Buf.rds qbw b8 fun b hb1 hb2=>by have:=hB b hb1; have:=hS b hb2; omega,h8.roots,hx6⟩) f8
  rw [hmk] at this
  exact this
theorem qn9 {n:Int} {K:List Value×Int->World->Prop} (h:RP S w x D M) (hS:∀ b∈S,b<w.heap.size) (hl1:M.lists.length<=100000) (hl2:M.free.length<=100000) (hl3:M.deferred.length<=100000) (hl:M.fresh.length<=100000) (hs1:M.free.Pairwise (· < ·)) (hs2:M.deferred.Pairwise (· < ·))
  (hk:∀ x' w',RP S w' x' D (dropV M n).2->Fr [] w w'->K (refV x',(dropV M n).1) w') :
  call Tryz.prog 51 [.agg (refV x).toArray,.int .u32 n] [.raw,.one (.int .i64)] w K:=by
 refine qep (p:=refV x) ?_
 unfold qcb
 have hx:=h.ok
 refine Own.new' (Own.start [] w) fun r1 w1 e1 f1 ho=>?_
 refine Own.newZ ho qbh fun r3 w2 e2 ho=>?_
 have same:∀ {e:Int} {w':World},dropV M n=(e,M)->Fr [] w w'->K (refV x,e) w':=fun he f=>by
  have:=hk x _ (by rw [he]; exact h.frame0 f) f
  rw [he] at this
  exact this
 refine Own.ld (c:=.bool) ho 1 rfl x.over (qda hx) ?_
 refine qaa (fun hc=>?_) (fun hc=>?_)
 ·exact qbI (K:=fun vs w=>K (vs,7) w) ho 1 0 rfl rfl qaq hx fun w4 f4 _=>same (by rw [dropV,if_pos (by rw [<- h.over]; exact hc)]) f4
 have ho0:¬ M.over=true:=by rw [<- h.over,hc]; decide
 refine Own.ldP ho 1 rfl hx ?_
 refine qgc (h.frame0 ho.fr) hl fun w3 f3=>?_
 have ho3:=ho.frame0 f3
 have h3:=h.frame0 ho3.fr
 have l1:r1<w3.heap.size:=qab (ho3.at (i:=1) rfl)
 have l3:r3<w3.heap.size:=qab (ho3.at (i:=0) rfl)
 have hsz:=ho3.fr.size
 cases hlk:look n M.fresh with
 | some q=>
  have hqn:q.1<M.fresh.length:=(List.getElem?_eq_some_iff.1 (qaI hlk).1).1
  have hq0:decide ((q.1:Int)>=0)=true:=by rw [decide_eq_true_iff]; omega
  refine cond_true hq0 ?_
  have hmk:dropV M n=(0,{ M with fresh:=M.fresh.take q.1++M.fresh.drop (q.1+1),free:=ins n M.free }):=by rw [dropV,if_neg ho0,hlk]; simp only [delL,hlk,List.eraseIdx_eq_take_drop_succ]
  refine Own.new' ho3 fun r12 w4 e4 f4 ho4=>?_
  have h4:=h3.fresh.frame0 f4
  refine Own.ld (c:=.slice) ho4 2 rfl x.sfr (qbt hx) ?_
  refine Rds.upto h4 q.1 rfl (by omega) fun s15 hs15=>?_
  refine que (S:=S) (s:=⟨some ⟨r12,0,none⟩,0,0⟩) (src:=s15) (l:=[]) (Buf.empty (ho4.at (i:=0) rfl)) hs15 (by simp; omega) fun s16 B w5 hb5 f5 n5=>?_
  rw [List.nil_append] at hb5
  have hB:∀ b∈B,w3.heap.size<=b:=fun b hb=>by
   rcases n5 b hb with h | h
   ·rw [List.mem_singleton.1 h]; omega
   ·have:=f4.size; omega
  have f35:Fr [] w3 w5:=f4.trans' f5 fun b hb=>by rw [List.mem_singleton.1 hb]; exact .inr (by omega)
  have ho5:=ho3.frame0 f35
  refine Own.ld (c:=.slice) ho5 1 rfl x.sfr (qbt hx) ?_
  refine Rds.drop (h3.fresh.frame0 f35) (q.1+1) ((wi' ((q.1:Int)+1) (by omega)).trans (by omega)) (by omega) (by omega) fun s19 hs19=>?_
  refine que (S:=S) hb5 hs19 (by rw [List.length_take,List.length_drop]; omega) fun s20 B6 w6 hb6 f6 n6=>?_
  have hB6:∀ b∈B6,w3.heap.size<=b:=fun b hb=>by
   rcases n6 b hb with h | h
   ·exact hB b h
   ·have:=f35.size; omega
  have f36:Fr [] w3 w6:=f35.trans' f6 fun b hb=>.inr (hB b hb)
  have ho6:=ho3.frame0 f36
  refine Own.st' ho6 1 rfl _ (qjW (s:=s20) hx) rfl (by rw [List.size_toArray,qaw hx]; exact Nat.le_of_ble_eq_true rfl) fun w7 ho7 f7=>?_
  have hx7:RV.Ok { x with sfr:=s20 }:=⟨hx.sup,hx.roots⟩
  have hb7:=Buf.apart hb6 hB6 l1 f7
  refine Own.ld (c:=.slice) ho7 1 rfl x.sf (qd7 hx7) ?_
  refine qj7 (h.frame0 ho7.fr).free hl2 fun s24 B8 w8 hb8 f8 n8=>?_
  rw [qif hs1] at hb8
  have ho8:=ho7.frame0 f8
  refine Own.st' ho8 1 rfl _ (qpS (s:=s24) hx7) rfl (by rw [List.size_toArray,qaw hx7]; exact Nat.le_of_ble_eq_true rfl) fun w9 ho9 f9=>?_
  have hx9:RV.Ok { x with sf:=s24,sfr:=s20 }:=⟨hx.sup,hx.roots⟩
  refine qbI (x:={ x with sf:=s24,sfr:=s20 }) (x0:=rvZ) (K:=fun vs w=>K (vs,0) w) ho9 1 0 rfl rfl qaq hx9 fun w10 f10 g10=>?_
  have b10:=Buf.apart (Buf.apart (Buf.frame0 hb7 f8) hB6 l1 f9) hB6 l3 g10
  have l7:=ho7.fr.size
  have l71:=qab (ho7.at (i:=1) rfl)
  have l73:=qab (ho7.at (i:=0) rfl)
  have c10:=Buf.apart (Buf.apart hb8 n8 l71 f9) n8 l73 g10
  have h10:=h.frame0 f10
  have:=hk { x with sf:=s24,sfr:=s20 } w10 (by rw [hmk]; exact ⟨h10.disk,h10.sup,h10.lists,h10.named,h10.turn,h10.over,Buf.rds qat c10 (fun b hb1 hb2=>by have:=n8 b hb1; have:=hS b hb2; omega),h10.deferred,Buf.rds qbw b10 (fun b hb1 hb2=>by have:=hB6 b hb1; have:=hS b hb2; omega),h10.roots,hx9⟩) f10
  rw [hmk] at this
  exact this
 | none=>
  refine cond_false (by decide) ?_
  refine Own.ldP ho3 1 rfl hx ?_
  refine qpF h3 hl1 hl2 hl3 hl fun w4 f4=>?_
  have ho4:=ho3.frame0 f4
  refine qaa (fun hc=>?_) (fun hc=>?_)
  ·have hu:¬ usedV M n=true:=by simpa using hc
   exact qbI (K:=fun vs w=>K (vs,10) w) ho4 1 0 rfl rfl qaq hx fun w5 f5 _=>same (by rw [dropV,if_neg ho0,hlk]; exact if_neg hu) f5
  have hu:usedV M n=true:=by simpa using hc
  have hmk:dropV M n=(0,{ M with deferred:=ins n M.deferred }):=by rw [dropV,if_neg ho0,hlk]; exact if_pos hu
  refine Own.ld (c:=.slice) ho4 1 rfl x.sd (qoE hx) ?_
  refine qj7 (h.frame0 ho4.fr).deferred hl3 fun s24 B8 w8 hb8 f8 n8=>?_
  rw [qif hs2] at hb8
  have ho8:=ho4.frame0 f8
  refine Own.st' ho8 1 rfl _ (qtT (s:=s24) hx) rfl (by rw [List.size_toArray,qaw hx]; exact Nat.le_of_ble_eq_true rfl) fun w9 ho9 f9=>?_
  have hx9:RV.Ok { x with sd:=s24 }:=⟨hx.sup,hx.roots⟩
  refine qbI (x:={ x with sd:=s24 }) (x0:=rvZ) (K:=fun vs w=>K (vs,0) w) ho9 1 0 rfl rfl qaq hx9 fun w10 f10 g10=>?_
  have l7:=ho4.fr.size
  have l71:=qab (ho4.at (i:=1) rfl)
  have l73:=qab (ho4.at (i:=0) rfl)
  have c10:=Buf.apart (Buf.apart hb8 n8 l71 f9) n8 l73 g10
  have h10:=h.frame0 f10
  have:=hk { x with sd:=s24 } w10 (by rw [hmk]; exact ⟨h10.disk,h10.sup,h10.lists,h10.named,h10.turn,h10.over,h10.free,Buf.rds qat c10 (fun b hb1 hb2=>by have:=n8 b hb1; have:=hS b hb2; omega),h10.fresh,h10.roots,hx9⟩) f10
  rw [hmk] at this
  exact this
end
end
theorem RD.opened {S:List Nat} {w w2:World} {d:RDv} {D:DiskM} {L:List (Nat×Obj)} (h:RD S w d D) (ho:Own [] w w2 L):RD (L.map (·.1)++S) w2 d D:=
 h.frame (ho.fr.mono fun i hi=>nomatch hi) fun b hb=>by
  rcases List.mem_append.1 hb with hb | hb
  ·obtain ⟨p,hp,rfl⟩:=List.mem_map.1 hb
   rcases ho.own p hp with h | h
   ·cases h
   ·exact .inr h
  ·exact .inl hb
theorem RD.keep {T:List Nat} {w w':World} {r:Nat} {d:RDv} {D:DiskM} (h:RD T w d D) (hr:r∈T) (f:Fr [r] w w'):RD T w' d D:=
 h.frame (f.mono fun i hi _=>by rw [List.mem_singleton.1 hi]; exact hr) fun b hb=>.inl hb
theorem RD.less {S T:List Nat} {w:World} {d:RDv} {D:DiskM} (h:RD (T++S) w d D):RD S w d D:=h.frame (.refl _ _) fun b hb=>.inl (List.mem_append_right _ hb)
theorem Own.ltS {S T:List Nat} {w0 w:World} {L:List (Nat×Obj)} (h:Own S w0 w L) (hS:∀ b∈T,b<w0.heap.size):∀ b∈L.map (·.1)++T,b<w.heap.size:=fun b hb=>by
 rcases List.mem_append.1 hb with hb | hb
 ·obtain ⟨p,hp,rfl⟩:=List.mem_map.1 hb
  exact qab (h.blk p hp)
 ·exact Nat.lt_of_lt_of_le (hS b hb) h.fr.size
theorem Own.stD' {S:List Nat} {w0 w:World} {L:List (Nat×Obj)} {r:Nat} {d d':RDv} {K:World->Prop} (h:Own S w0 w L) (i:Nat) (hi:L[i]?=some (r,.cells (rdC d) RDT (0,0))) (k:∀ w',Own S w0 w' (L.set i (r,.cells (rdC d') RDT (0,0)))->Fr [r] w w'->K w'):st ⟨r,0,none⟩ (HL.mk dC d') w K:=
 Own.st' h i hi (rdC d') rfl rfl (Nat.le_of_ble_eq_true rfl) k
theorem qte {numbers pages:List Int} (h:(bodiesV numbers pages).2=0):(bodiesV numbers pages).1.length=pages.length/\∀ b∈(bodiesV numbers pages).1,b.length<=500/\IsB b:=by
 unfold bodiesV at h ⊢
 split
 ·rename_i h1; rw [if_pos h1] at h; exact absurd h (by decide)
 rename_i h1; rw [if_neg h1] at h
 split
 ·rename_i h1; rw [if_pos h1] at h; exact absurd h (by decide)
 ·refine ⟨qcM _ _ _,fun b hb=>?_⟩
  obtain ⟨i,_,rfl⟩:=List.mem_map.1 hb
  rw [qeu]
  have:=qgt numbers i
  unfold chunk at this
  exact ⟨by omega,qjs _ _⟩
theorem qmz {S:List Nat} {w:World} {d:RDv} {D:DiskM} {k:Nat} {sn sp:Sl} {numbers pages:List Int} {K:RDv×Int->World->Prop} (h:RD S w d D) (hD:Lim D k) (hk6:k+pages.length<1000000) (hS:∀ b∈S,b<w.heap.size)
  (hn:Rd [] w sn numbers) (hp:Rd [] w sp pages) (hnl:numbers.length<=100000) (hpl:pages.length<=100000) (hnu:∀ x∈numbers,U32 x) (hpu:∀ x∈pages,U32 x) (hb0:(bodiesV numbers pages).2=0)
  (hk:∀ d' w',RD S w' d' (spreadM D numbers pages).1->Fr [] w w'->K (d',(spreadM D numbers pages).2) w') :
  call Tryz.prog 108 [.agg (rdC d),.slice sn.a sn.len sn.cap,.slice sp.a sp.len sp.cap] [.agg dC,.one (.int .i64)] w K:=by
 obtain ⟨d0,d1,d2,d3,d4⟩:=d
 refine qfZ (d0:=d0) (d1:=d1) (d2:=d2) (d3:=d3) (d4:=d4) (numbers:=sn) (pages:=sp) ?_
 unfold qc1
 rw [spreadM,if_neg (by rw [hb0]; decide)] at hk
 refine Own.new' (Own.start [] w) fun r1 w1 e1 f1 ho=>?_
 refine Own.new' ho fun r3 w2 e2 f2 ho=>?_
 have h2:=h.opened ho
 refine qrC (G:=[]) (hn.frame0 ho.fr) (hp.frame0 ho.fr) hnl hpl hnu hpu fun s5 B w3 b3 f3 n3=>?_
 have hbl:=qte hb0
 generalize (bodiesV numbers pages).1=bs at hk hbl b3
 have ho3:=ho.frame0 f3
 have h3:=h2.frame0 f3
 have hp3:=hp.frame0 ho3.fr
 have hbs3:=Buf.rds (S:=[r3,r1]) qmo b3 fun b hb hm=>by
  have hlt:=Own.ltS ho (T:=[]) (fun b hb=>nomatch hb) b (by simpa using hm)
  have:=n3 b hb
  omega
 have hsl:=hbs3.1
 have hlp:=hp.1
 have hbl1:=hbl.1
 refine qag (fun x w'=>∃ (i:Nat) (d':RDv) (D':DiskM),x=i/\i<=pages.length/\Own [] w w' [(r3,.cells (rdC zD) RDT (0,0)),(r1,.cells (rdC d') RDT (0,0))]/\Fr [r3,r1] w3 w'/\RD ([r3,r1]++S) w' d' D'/\Lim D' (k+i)/\
   andThen (writesM ((pages.zip bs).map fun x=>(x.1,sealV x.1 2 x.2)) D) syncM=andThen (writesM (((pages.zip bs).drop i).map fun x=>(x.1,sealV x.1 2 x.2)) D') syncM) (fun x _=>((pages.length:Int)-x).toNat)
  ⟨0,(d0,d1,d2,d3,d4),D,rfl,by omega,ho3,.refl _ _,h3,hD,rfl⟩ ?_
 rintro x w4 ⟨i,d',D',rfl,hi,ho4,f4,h4,hD4,he⟩ X hX
 have hbs4:=Rds.frame hbs3 f4 (fun b hb=>.inl hb)
 have hp4:=hp.frame0 ho4.fr
 refine qaa (fun hc=>?_) (fun hc=>?_)
 ·have hil:i<pages.length:=by have:=of_decide_eq_true hc; dsimp only at this; omega
  have hib:i<bs.length:=by omega
  have hb:=hbl.2 bs[i] (List.getElem_mem hib)
  refine Rd.at (w:=w4.drew) (hp4.frame0 (Fr.refl [] w4).drew) i rfl (List.getElem?_eq_getElem hil) ?_
  refine Rds.get (c:=.str) (y:=strOf bs[i]) (Rds.drew hbs4) i rfl (List.getElem?_eq_getElem hib) rfl ?_
  refine qig (hpu _ (List.getElem_mem hil)) (by decide) hb.2 (fun h=>absurd h (by omega)) fun _ w5 f5=>?_
  have f45:Fr [] w4 w5.drew:=((Fr.refl [] w4).drew.trans f5).drew
  have ho5:=ho4.frame0 f45
  have h5:=h4.frame0 f45
  refine Own.ldD ho5 1 rfl ?_
  refine Rd.at (hp4.frame0 f45) i rfl (List.getElem?_eq_getElem hil) ?_
  have hpi:=hpu _ (List.getElem_mem hil)
  rw [wi' pages[i] (by have:=hpi.1; have:=hpi.2; omega)]
  have hw:=hD4.waits
  have hr:=hD4.writes
  refine qdy h5 hD4.ok (Own.ltS ho5 hS) (by omega) (by omega) fun d6 w6 h6 f6=>?_
  have ho6:=ho5.frame0 f6
  refine Own.stD' ho6 1 rfl fun w7 ho7 f7=>?_
  have h7:=h6.keep (r:=r1) (by simp) f7
  have hz:(pages.zip bs).drop i=(pages[i],bs[i])::(pages.zip bs).drop (i+1):=qiu (numbers:=numbers) hil hib
  rw [hz,List.map_cons,writesM] at he
  refine qaa (fun hc2=>?_) (fun hc2=>?_)
  ·have hne:(writeM D' pages[i] (sealV pages[i] 2 bs[i])).2≠0:=by simpa using hc2
   have hfin:andThen (writesM ((pages.zip bs).map fun x=>(x.1,sealV x.1 2 x.2)) D) syncM=writeM D' pages[i] (sealV pages[i] 2 bs[i]):=by
    rw [he]; simp only [andThen]; rw [if_neg hne,if_neg hne]
   refine qb9 (K:=fun t w=>K (t,(writeM D' pages[i] (sealV pages[i] 2 bs[i])).2) w) ho7 1 0 rfl rfl fun w8 f8 g8=>?_
   have:=hk d6 w8 (by rw [hfin]; exact (h7.keep (r:=r3) (by simp) g8).less) f8
   rw [hfin] at this
   exact this
  ·have heq:(writeM D' pages[i] (sealV pages[i] 2 bs[i])).2=0:=by simpa using hc2
   rw [wi' _ (by omega)]
   refine hX _ _ ⟨i+1,d6,_,by simp,by omega,ho7,?_,h7,?_,?_⟩ (by omega)
   ·exact (f4.trans (f45.mono fun b hb=>nomatch hb)).trans ((f6.mono fun b hb=>nomatch hb).trans (f7.mono fun b hb _=>by rw [List.mem_singleton.1 hb]; simp))
   ·exact (hD4.write (by omega) (qcj (by decide) hb.2)).mono (by omega)
   ·rw [he]; simp only [andThen]; rw [if_pos heq]
 ·have hie:i=pages.length:=by have:=of_decide_eq_false hc; dsimp only at this; omega
  subst hie
  have hz:(pages.zip bs).drop pages.length=[]:=List.drop_eq_nil_of_le (by rw [List.length_zip]; omega)
  rw [hz] at he
  have hfin:andThen (writesM ((pages.zip bs).map fun x=>(x.1,sealV x.1 2 x.2)) D) syncM=syncM D':=by rw [he]; rfl
  refine Own.ldD ho4 1 rfl ?_
  refine qjv h4 hD4.ok (Own.ltS ho4 hS) fun d6 w6 h6 f6=>?_
  have ho6:=ho4.frame0 f6
  refine Own.stD' (d:=zD) ho6 0 rfl fun w7 ho7 f7=>?_
  refine Own.ldD ho7 0 rfl ?_
  have:=hk d6 w7 (by rw [hfin]; exact (h6.keep (r:=r3) (by simp) f7).less) ho7.fr
  rw [hfin] at this
  exact this
theorem qnS {S:List Nat} {w:World} {d:RDv} {D:DiskM} {k:Nat} {s:Sup} {K:RDv×Int->World->Prop} (h:RD S w d D) (hD:Lim D k) (hk6:k<1000000) (hS:∀ b∈S,b<w.heap.size) (hq:U64 s.1) (ht:s.2.length=27) (hu:∀ x∈s.2,U32 x)
  (hk:∀ d' w',RD S w' d' (sealM D s).1->Fr [] w w'->K (d',(sealM D s).2) w') :
  call Tryz.prog 109 [.agg (rdC d),.agg (supV s.1 s.2).toArray] [.agg dC,.one (.int .i64)] w K:=by
 obtain ⟨d0,d1,d2,d3,d4⟩:=d
 refine qgU (d0:=d0) (d1:=d1) (d2:=d2) (d3:=d3) (d4:=d4) (s:=supV s.1 s.2) ?_
 unfold qdO
 refine Own.new' (Own.start [] w) fun r1 w1 e1 f1 ho=>?_
 refine Own.new' ho fun r3 w2 e2 f2 ho=>?_
 refine Own.new' ho fun r5 w3 e3 f3 ho=>?_
 have h3:=h.opened ho
 have hod:=ho.drew
 refine Own.ldD (d:=(d0,d1,d2,d3,d4)) hod 2 rfl ?_
 refine Own.ld (c:=.int .u64) hod 1 rfl s.1 rfl ?_
 refine qas (hod.at (i:=1) rfl) (supV s.1 s.2) (qax ht) (by rw [List.drop_zero,List.take_of_length_le (Nat.le_of_eq (qax ht))]) ?_
 refine qsF hq ht hu fun w4 f4=>?_
 have ho4:=hod.frame0 f4
 have h4:=h3.frame0 ((Fr.refl [] w3).drew.trans f4)
 refine qaO (by rw [qaj (ho4.at (i:=1) rfl)]; rfl) (qaK (ho4.at (i:=2) rfl) _ 0 0 rfl) ?_
 have hm:Int.tmod s.1 2=s.1%2:=Int.tmod_eq_emod_of_nonneg hq.1
 have hm2:0<=s.1%2/\s.1%2<2:=by omega
 rw [wi' (Int.tmod s.1 2) (by rw [hm]; omega)]
 have hw:=hD.waits
 have hr:=hD.writes
 refine qdy (n:=Int.tmod s.1 2) (l:=(superP s).2) h4 hD.ok (Own.ltS ho4 hS) (by omega) (by omega) fun d6 w6 h6 f6=>?_
 have ho6:=ho4.frame0 f6
 refine Own.stD' (d:=(d0,d1,d2,d3,d4)) ho6 2 rfl fun w7 ho7 f7=>?_
 have h7:=h6.keep (r:=r1) (by simp) f7
 refine qaa (fun hc=>?_) (fun hc=>?_)
 ·have hne:(writeM D (superP s).1 (superP s).2).2≠0:=(by simpa using hc:(writeM D (Int.tmod s.1 2) (superP s).2).2≠0)
  have hfin:sealM D s=writeM D (superP s).1 (superP s).2:=by simp only [sealM,andThen]; rw [if_neg hne]
  refine qb9 (d:=d6) (d0:=zD) (K:=fun t w=>K (t,(writeM D (superP s).1 (superP s).2).2) w) ho7 2 0 rfl rfl fun w8 f8 g8=>?_
  have:=hk d6 w8 (by rw [hfin]; exact (h7.keep (r:=r5) (by simp) g8).less) f8
  rw [hfin] at this
  exact this
 ·have heq:(writeM D (superP s).1 (superP s).2).2=0:=(by simpa using hc:(writeM D (Int.tmod s.1 2) (superP s).2).2=0)
  have hfin:sealM D s=syncM (writeM D (superP s).1 (superP s).2).1:=by simp only [sealM,andThen]; rw [if_pos heq]
  refine Own.ldD ho7 2 rfl ?_
  refine qjv h7 (hD.write hk6 (qml s)).ok (by have:=Own.ltS ho7 hS; exact this) fun d8 w8 h8 f8=>?_
  have ho8:=ho7.frame0 f8
  refine Own.stD' (d:=zD) ho8 0 rfl fun w9 ho9 f9=>?_
  refine Own.ldD ho9 0 rfl ?_
  have:=hk d8 w9 (by rw [hfin]; exact (h8.keep (r:=r5) (by simp) f9).less) ho9.fr
  rw [hfin] at this
  exact this
theorem qr2 {S:List Nat} {w:World} {d:RDv} {D:DiskM} {k:Nat} {K:RDv×Int->World->Prop} (h:RD S w d D) (hl:Lim D k) (hk:k<=900000) (h8:8<=D.safe.length) (hS:∀ b∈S,b<w.heap.size)
  (kk:∀ d' w',RD S w' d' (formatM D).1->Fr [] w w'->K (d',(formatM D).2) w') :
  call Tryz.prog 66 [.agg (rdC d)] [.agg dC,.one (.int .i64)] w K:=by
 obtain ⟨d0,d1,d2,d3,d4⟩:=d
 refine qf7 (d0:=d0) (d1:=d1) (d2:=d2) (d3:=d3) (d4:=d4) ?_
 unfold qde
 have hsafe:=hl.ok.safe
 refine Own.new' (Own.start [] w) fun r1 w1 e1 f1 ho=>?_
 refine Own.new' ho fun r3 w2 e2 f2 ho=>?_
 have h2:=h.opened ho
 refine Own.mk1 (Own.start [] w2) (by decide) (by decide) (by decide) (by decide) fun b w3 e3 ho3b=>?_
 have f3:=ho3b.fr
 have hb:=ho3b.at (i:=0) rfl
 have hz:(512:Int).toNat=512:=rfl
 rw [hz] at hb ⊢
 rw [qfF] at hb
 have hrd:=qcv (S:=[]) (l:=zs 512) hb (by simp)
 rw [qaC] at hrd
 refine qa4 (S:=[]) (s:=⟨some ⟨b,0,none⟩,512,512⟩) hrd (IsB.zs _) ?_
 have ho3:=ho.frame0 f3
 have h3:=h2.frame0 f3
 have hw:=hl.waits
 have hr:=hl.writes
 refine Own.ldD (d:=(d0,d1,d2,d3,d4)) ho3 1 rfl ?_
 refine qdy (l:=zs 512) h3 hl.ok (Own.ltS ho3 hS) (by omega) (by omega) fun d6 w6 h6 f6=>?_
 have ho6:=ho3.frame0 f6
 refine Own.stD' (d:=(d0,d1,d2,d3,d4)) ho6 1 rfl fun w7 ho7 f7=>?_
 have h7:=h6.keep (r:=r1) (by simp) f7
 have l7:=hl.write (n:=0) (l:=zs 512) (by omega) (IsB.zs 512)
 refine qaa (fun hc=>?_) (fun hc=>?_)
 ·have hc:(writeM D 0 (zs 512)).2≠0:=by simpa using hc
  have e:formatM D=writeM D 0 (zs 512):=qaL hc
  rw [e] at kk
  exact qb9 (d:=d6) (d0:=zD) (K:=fun t w=>K (t,(writeM D 0 (zs 512)).2) w) ho7 1 0 rfl rfl fun w8 f8 g8=>kk d6 w8 (h7.keep (r:=r3) (by simp) g8).less f8
 have hc1:(writeM D 0 (zs 512)).2=0:=by simpa using hc
 rw [formatM,qaW hc1] at kk
 have hD2:=qcE (D:=D) (n:=0) (l:=zs 512)
 generalize (writeM D 0 (zs 512)).1=D2 at h7 l7 kk hD2
 have hw2:=l7.waits
 have hr2:=l7.writes
 refine Own.ldD (d:=d6) ho7 1 rfl ?_
 refine qdy (l:=zs 512) h7 l7.ok (by have:=Own.ltS ho7 hS; exact this) (by omega) (by omega) fun d8 w8 h8' f8=>?_
 have ho8:=ho7.frame0 f8
 refine Own.stD' (d:=d6) ho8 1 rfl fun w9 ho9 f9=>?_
 have h9:=h8'.keep (r:=r1) (by simp) f9
 have l9:=l7.write (n:=1) (l:=zs 512) (by omega) (IsB.zs 512)
 refine qaa (fun hc=>?_) (fun hc=>?_)
 ·have hc:(writeM D2 1 (zs 512)).2≠0:=by simpa using hc
  rw [qaL hc] at kk
  exact qb9 (d:=d8) (d0:=zD) (K:=fun t w=>K (t,(writeM D2 1 (zs 512)).2) w) ho9 1 0 rfl rfl fun w10 f10 g10=>kk d8 w10 (h9.keep (r:=r3) (by simp) g10).less f10
 have hc2:(writeM D2 1 (zs 512)).2=0:=by simpa using hc
 rw [qaW hc2] at kk
 have hD4:=qcE (D:=D2) (n:=1) (l:=zs 512)
 generalize (writeM D2 1 (zs 512)).1=D4 at h9 l9 kk hD4
 refine Own.ldD (d:=d8) ho9 1 rfl ?_
 refine qjv h9 l9.ok (by have:=Own.ltS ho9 hS; exact this) fun d10 w10 h10 f10=>?_
 have ho10:=ho9.frame0 f10
 refine Own.stD' (d:=d8) ho10 1 rfl fun w11 ho11 f11=>?_
 have h11:=h10.keep (r:=r1) (by simp) f11
 have l11:=l9.sync
 refine qaa (fun hc=>?_) (fun hc=>?_)
 ·have hc:(syncM D4).2≠0:=by simpa using hc
  rw [qaL hc] at kk
  exact qb9 (d:=d10) (d0:=zD) (K:=fun t w=>K (t,(syncM D4).2) w) ho11 1 0 rfl rfl fun w12 f12 g12=>kk d10 w12 (h11.keep (r:=r3) (by simp) g12).less f12
 have hc3:(syncM D4).2=0:=by simpa using hc
 rw [qaW hc3] at kk
 have hD5:=qgf (D:=D4)
 generalize (syncM D4).1=D5 at h11 l11 kk hD5
 have hn5:D5.safe.length=D.safe.length:=by omega
 have al:=qh9 D.safe.length
 have hd10:d10.1.len=D.safe.length:=by have:=h11.safe.1; omega
 have hS11:=fun b hb=>Own.ltS ho11 hS b hb
 refine Own.new' ho11 fun r30 w12 e12 f12 ho12=>?_
 refine qag (fun x w'=>∃ (i:Nat) (B:List Nat),x.2=((i+2:Nat):Int)/\i<=D.safe.length-2/\BufU w' x.1 ((allV D.safe.length).take i) B/\Fr [] w11 w'/\∀ b∈B,w11.heap.size<=b) (fun x _=>((D.safe.length:Int)-x.2).toNat)
  ⟨0,[r30],rfl,by omega,Buf.empty (ho12.at (i:=0) rfl),f12,by simp [e12]⟩ ?_
 rintro ⟨s,x⟩ w13 ⟨i,B,hx,hi,hb13,f13,n13⟩ Y hY
 simp only at hx hb13
 subst hx
 have ho13:=ho11.frame0 f13
 refine Own.ld (c:=.slice) ho13 1 rfl d10.1 rfl ?_
 dsimp only
 rw [hd10]
 refine qaa (fun hc=>?_) (fun hc=>?_)
 ·have hil:i<D.safe.length-2:=by have:=of_decide_eq_true hc; omega
  rw [qaJ ((i+2:Nat):Int) (by omega)]
  refine qh5 hb13 (by rw [List.length_take]; omega) fun s7 B7 w7 b7 f7 n7=>?_
  rw [wi' _ (by omega)]
  refine hY _ _ ⟨i+1,B7,by simp; omega,by omega,?_,f13.trans' f7 (fun b hb=>.inr (n13 b hb)),fun b hb=>?_⟩ (by dsimp only; omega)
  ·have e:(allV D.safe.length).take (i+1)=(allV D.safe.length).take i++[((i+2:Nat):Int)]:=by
    rw [List.take_succ_eq_append_getElem (by omega)]
    congr 2
    have h1:=qnc hil
    have h2:=List.getElem?_eq_getElem (l:=allV D.safe.length) (i:=i) (by omega)
    rw [h2] at h1
    rw [Option.some.inj h1]
    simp
   rw [e]; exact b7
  ·rcases n7 b hb with h | h
   ·exact n13 b h
   ·exact Nat.le_trans f13.size h
 ·have hie:i=D.safe.length-2:=by have:=of_decide_eq_false hc; omega
  subst hie
  rw [List.take_of_length_le (by omega)] at hb13
  have hsl:=hb13.len
  rw [hsl]
  refine qpi (by omega) ?_
  have hnp:=qhO (n:=(allV D.safe.length).length)
  have hod:=ho13.drew
  refine Own.ldD (d:=d10) hod 1 rfl ?_
  have rall:Rd [] w13.drew s (allV D.safe.length):=Buf.rds qat (Buf.frame0 hb13 (Fr.refl [] w13).drew) (fun b hb hm=>nomatch hm)
  refine Rds.drop rall (needP (allV D.safe.length).length) rfl hnp (by omega) fun sn rn=>?_
  refine Rds.upto rall (needP (allV D.safe.length).length) rfl hnp fun sp rp=>?_
  have hlo:=qhM (n:=D.safe.length)
  have f11d:Fr [] w11 w13.drew:=f13.drew
  rw [hn5] at kk
  have hu:∀ x∈allV D.safe.length,U32 x:=fun x hx=>by have:=qfK.1 hx; constructor <;> omega
  refine qmz (h11.frame0 f11d) l11 (by rw [List.length_take]; omega) (by have:=Own.ltS hod hS; exact this) rn rp (by rw [List.length_drop]; omega) (by rw [List.length_take]; omega) (fun x hx=>hu x (List.mem_of_mem_drop hx)) (fun x hx=>hu x (List.mem_of_mem_take hx)) (by rw [hlo.bodies]) fun d14 w14 h14 f14=>?_
  have l14:=(l11.spread (numbers:=(allV D.safe.length).drop (needP (allV D.safe.length).length)) (pages:=(allV D.safe.length).take (needP (allV D.safe.length).length)) (by rw [List.length_take]; omega)).mono (k':=k+2+4096) (by rw [List.length_take]; omega)
  have ho14:=hod.frame0 f14
  refine Own.stD' (d:=d10) ho14 1 rfl fun w15 ho15 f15=>?_
  have h15:=h14.keep (r:=r1) (by simp) f15
  refine qaa (fun hc=>?_) (fun hc=>?_)
  ·have hc:(spreadM D5 ((allV D.safe.length).drop (needP (allV D.safe.length).length)) ((allV D.safe.length).take (needP (allV D.safe.length).length))).2≠0:=by simpa using hc
   rw [qaL hc] at kk
   exact qb9 (d:=d14) (d0:=zD) (K:=fun t w=>K (t,(spreadM D5 ((allV D.safe.length).drop (needP (allV D.safe.length).length)) ((allV D.safe.length).take (needP (allV D.safe.length).length))).2) w) ho15 1 0 rfl rfl fun w16 f16 g16=>kk d14 w16 (h15.keep (r:=r3) (by simp) g16).less f16
  have hc4:(spreadM D5 ((allV D.safe.length).drop (needP (allV D.safe.length).length)) ((allV D.safe.length).take (needP (allV D.safe.length).length))).2=0:=by simpa using hc
  rw [qaW hc4] at kk
  have hD7:=qgF (D:=D5) (a:=(allV D.safe.length).drop (needP (allV D.safe.length).length)) (b:=(allV D.safe.length).take (needP (allV D.safe.length).length))
  generalize (spreadM D5 ((allV D.safe.length).drop (needP (allV D.safe.length).length)) ((allV D.safe.length).take (needP (allV D.safe.length).length))).1=D7 at h15 l14 kk hD7
  have hn7:D7.safe.length=D.safe.length:=by omega
  rw [hn7] at kk
  refine Own.ldD (d:=d14) ho15 1 rfl ?_
  refine Own.ld (c:=.slice) ho15 1 rfl d14.1 rfl ?_
  have hd14:d14.1.len=D.safe.length:=by have:=h15.safe.1; omega
  rw [hd14]
  have hfree:IntKind.wrap .i64 (((allV D.safe.length).length:Int)-(needP (allV D.safe.length).length:Int))=((allV D.safe.length).length:Int)-(needP (allV D.safe.length).length:Int):=wi' _ (by omega)
  rw [hfree]
  refine qay (ts:=[Ty1.raw]) (supV (fmtSup D.safe.length).1 (fmtSup D.safe.length).2) (qlZ w15) ?_
  have hso:=qgv h8 hsafe
  refine qnS (s:=fmtSup D.safe.length) h15 l14 (by omega) (by have:=Own.ltS ho15 hS; exact this) ⟨hso.seq.1,by have:=hso.seq.2; omega⟩ hso.len hso.u32 fun d16 w16 h16 f16=>?_
  have ho16:=ho15.frame0 f16
  refine Own.stD' (d:=zD) ho16 0 rfl fun w17 ho17 f17=>?_
  refine Own.ldD (d:=d16) ho17 0 rfl ?_
  exact kk d16 w17 (h16.keep (r:=r3) (by simp) f17).less ho17.fr
section
theorem qvf {S:Type} {B:(S->World->Prop)->S->World->Prop} {s:S} {w:World} {n:Nat} (I:Nat->S->World->Prop) (h0:I n s w)
  (step:∀ n s w,I n s w->∀ X:S->World->Prop,(∀ n' s' w',I n' s' w'->n'<n->X s' w')->B X s w):loop S B s w:=by
 unfold loop
 intro J hJ
 have key:∀ n s w,I n s w->J s w:=by
  intro n
  induction n using Nat.strongRecOn with
  | _ n ih=>exact fun s w hI=>hJ s w (step n s w hI J fun n' s' w' hI' hlt=>ih n' hlt s' w' hI')
 exact key n s w h0
section
variable {x:RV}
theorem qn1 (h:x.Ok) {s:Sup} (hs:s.2.length=27):splice (refV x).toArray 5 (supV s.1 s.2)=(refV { x with sup:=s }).toArray:=by
 have:=qap (A:=rvA x) (X:=supV x.sup.1 x.sup.2) (Y:=supV s.1 s.2) (Z:=rvB x++rvW x) (by rw [qax h.sup,qax hs])
 have e1:refV x=rvA x++supV x.sup.1 x.sup.2++(rvB x++rvW x):=by simp [refV]
 have e2:refV { x with sup:=s }=rvA x++supV s.1 s.2++(rvB x++rvW x):=by simp [refV,rvA,rvB,rvW]
 rw [e1,e2]; exact this
theorem qpX (h:x.Ok) {s:Sl}:splice (refV x).toArray 33 [slV s]=(refV { x with sl:=s }).toArray:=by
 have:=qap (A:=rvA x++supV x.sup.1 x.sup.2) (X:=[slV x.sl]) (Y:=[slV s]) (Z:=[slV x.sn,.int .i64 x.turn,.bool x.over]++rvW x) rfl
 rw [qid h] at this
 have e1:refV x=rvA x++supV x.sup.1 x.sup.2++[slV x.sl]++([slV x.sn,.int .i64 x.turn,.bool x.over]++rvW x):=by simp [refV,rvB]
 have e2:refV { x with sl:=s }=rvA x++supV x.sup.1 x.sup.2++[slV s]++([slV x.sn,.int .i64 x.turn,.bool x.over]++rvW x):=by simp [refV,rvA,rvB,rvW]
 rw [e1,e2]; exact this
theorem qoR (h:x.Ok) {s:Sl}:splice (refV x).toArray 34 [slV s]=(refV { x with sn:=s }).toArray:=by
 have:=qap (A:=rvA x++supV x.sup.1 x.sup.2++[slV x.sl]) (X:=[slV x.sn]) (Y:=[slV s]) (Z:=[.int .i64 x.turn,.bool x.over]++rvW x) rfl
 rw [List.length_append,qid h] at this
 have e1:refV x=rvA x++supV x.sup.1 x.sup.2++[slV x.sl]++[slV x.sn]++([.int .i64 x.turn,.bool x.over]++rvW x):=by simp [refV,rvB]
 have e2:refV { x with sn:=s }=rvA x++supV x.sup.1 x.sup.2++[slV x.sl]++[slV s]++([.int .i64 x.turn,.bool x.over]++rvW x):=by simp [refV,rvA,rvB,rvW]
 rw [e1,e2]; exact this
theorem qrB (h:x.Ok) {b:Bool}:splice (refV x).toArray 36 [.bool b]=(refV { x with over:=b }).toArray:=by
 have:=qap (A:=rvA x++supV x.sup.1 x.sup.2++[slV x.sl,slV x.sn,.int .i64 x.turn]) (X:=[.bool x.over]) (Y:=[.bool b]) (Z:=rvW x) rfl
 rw [List.length_append,qid h] at this
 have e1:refV x=rvA x++supV x.sup.1 x.sup.2++[slV x.sl,slV x.sn,.int .i64 x.turn]++[.bool x.over]++rvW x:=by simp [refV,rvB]
 have e2:refV { x with over:=b }=rvA x++supV x.sup.1 x.sup.2++[slV x.sl,slV x.sn,.int .i64 x.turn]++[.bool b]++rvW x:=by simp [refV,rvA,rvB,rvW]
 rw [e1,e2]; exact this
end
abbrev rpOffs:Array (Nat×Nat):=#[(0,5),(5,28),(33,1),(34,1),(35,1),(36,1),(37,27)]
theorem qgk:Tryz.prog.underlying RPT=some (.struct (fieldsOf Tryz.prog RPT)):=by kernel_rfl
theorem qkf:∀ w,((fieldsOf Tryz.prog RPT).mapM fun f=>do pure (f.offset,<- sizeOf f.type):Sem (Array (Nat×Nat))).run Tryz.prog w=.ok rpOffs w:=fun w=>by kernel_rfl
theorem qkc:∃ z,(Tryz.prog.info? RPT).bind (·.zero)=some z/\z.cells=(refV rvZ).toArray:=by
 obtain ⟨z,hz,hzs⟩:=Option.map_eq_some_iff.1 qbh
 exact ⟨z,hz,by rw [<- hzs]⟩
theorem qtK (w:World):(Instr.build RPT #[]).run Tryz.prog w=.ok (.agg (refV rvZ).toArray) w:=by
 obtain ⟨z,hz,hzs⟩:=qkc
 rw [<- hzs]
 exact qlT hz qgk qkf w
theorem qtw {d:RDv} {s:Sup} (hs:s.2.length=27) (w:World):(Instr.build RPT #[(0,.agg (rdC d)),(1,.agg (supV s.1 s.2).toArray)]).run Tryz.prog w=.ok (.agg (refV { rvZ with d:=d,sup:=s }).toArray) w:=by
 obtain ⟨z,hz,hzs⟩:=qkc
 refine qa2 (parts:=[(0,.agg (rdC d)),(1,.agg (supV s.1 s.2).toArray)]) hz qgk qkf ?_ w
 rw [hzs,qan (o:=0) (s:=5) rfl rfl (by rw [List.size_toArray,qaw qaq]; decide)]
 have e1:splice (refV rvZ).toArray 0 (Value.cells (.agg (rdC d))).toList=(refV { rvZ with d:=d }).toArray:=qnm qaq
 have k1:RV.Ok { rvZ with d:=d }:=⟨rfl,rfl⟩
 rw [e1,qan (o:=5) (s:=28) rfl (by show (supV s.1 s.2).toArray.size=28; rw [List.size_toArray,qax hs]) (by rw [List.size_toArray,qaw k1]; decide)]
 have e2:splice (refV { rvZ with d:=d }).toArray 5 (Value.cells (.agg (supV s.1 s.2).toArray)).toList=(refV { rvZ with d:=d,sup:=s }).toArray:=qn1 k1 hs
 rw [e2]
 rfl
theorem qtN {d:RDv} (w:World):(Instr.build RPT #[(0,.agg (rdC d)),(5,.bool true)]).run Tryz.prog w=.ok (.agg (refV { rvZ with d:=d,over:=true }).toArray) w:=by
 obtain ⟨z,hz,hzs⟩:=qkc
 refine qa2 (parts:=[(0,.agg (rdC d)),(5,.bool true)]) hz qgk qkf ?_ w
 rw [hzs,qan (o:=0) (s:=5) rfl rfl (by rw [List.size_toArray,qaw qaq]; decide)]
 have e1:splice (refV rvZ).toArray 0 (Value.cells (.agg (rdC d))).toList=(refV { rvZ with d:=d }).toArray:=qnm qaq
 have k1:RV.Ok { rvZ with d:=d }:=⟨rfl,rfl⟩
 rw [e1,qan (o:=36) (s:=1) rfl rfl (by rw [List.size_toArray,qaw k1]; decide)]
 have e2:splice (refV { rvZ with d:=d }).toArray 36 (Value.cells (.bool true)).toList=(refV { rvZ with d:=d,over:=true }).toArray:=qrB k1
 rw [e2]
 rfl
theorem qsT {d:RDv} {s:Sup} {sl sn:Sl} {t:Int} (hs:s.2.length=27) (w:World):(Instr.build RPT #[(0,.agg (rdC d)),(1,.agg (supV s.1 s.2).toArray),(2,.slice sl.a sl.len sl.cap),(3,.slice sn.a sn.len sn.cap),(4,.int .i64 t)]).run Tryz.prog w=.ok (.agg (refV { rvZ with d:=d,sup:=s,sl:=sl,sn:=sn,turn:=t }).toArray) w:=by
 obtain ⟨z,hz,hzs⟩:=qkc
 refine qa2 (parts:=[(0,.agg (rdC d)),(1,.agg (supV s.1 s.2).toArray),(2,.slice sl.a sl.len sl.cap),(3,.slice sn.a sn.len sn.cap),(4,.int .i64 t)]) hz qgk qkf ?_ w
 rw [hzs,qan (o:=0) (s:=5) rfl rfl (by rw [List.size_toArray,qaw qaq]; decide)]
 have e1:splice (refV rvZ).toArray 0 (Value.cells (.agg (rdC d))).toList=(refV { rvZ with d:=d }).toArray:=qnm qaq
 have k1:RV.Ok { rvZ with d:=d }:=⟨rfl,rfl⟩
 rw [e1,qan (o:=5) (s:=28) rfl (by show (supV s.1 s.2).toArray.size=28; rw [List.size_toArray,qax hs]) (by rw [List.size_toArray,qaw k1]; decide)]
 have e2:splice (refV { rvZ with d:=d }).toArray 5 (Value.cells (.agg (supV s.1 s.2).toArray)).toList=(refV { rvZ with d:=d,sup:=s }).toArray:=qn1 k1 hs
 have k2:RV.Ok { rvZ with d:=d,sup:=s }:=⟨hs,rfl⟩
 rw [e2,qan (o:=33) (s:=1) rfl rfl (by rw [List.size_toArray,qaw k2]; decide)]
 have e3:splice (refV { rvZ with d:=d,sup:=s }).toArray 33 (Value.cells (.slice sl.a sl.len sl.cap)).toList=(refV { rvZ with d:=d,sup:=s,sl:=sl }).toArray:=qpX k2
 have k3:RV.Ok { rvZ with d:=d,sup:=s,sl:=sl }:=⟨hs,rfl⟩
 rw [e3,qan (o:=34) (s:=1) rfl rfl (by rw [List.size_toArray,qaw k3]; decide)]
 have e4:splice (refV { rvZ with d:=d,sup:=s,sl:=sl }).toArray 34 (Value.cells (.slice sn.a sn.len sn.cap)).toList=(refV { rvZ with d:=d,sup:=s,sl:=sl,sn:=sn }).toArray:=qoR k3
 have k4:RV.Ok { rvZ with d:=d,sup:=s,sl:=sl,sn:=sn }:=⟨hs,rfl⟩
 rw [e4,qan (o:=35) (s:=1) rfl rfl (by rw [List.size_toArray,qaw k4]; decide)]
 have e5:splice (refV { rvZ with d:=d,sup:=s,sl:=sl,sn:=sn }).toArray 35 (Value.cells (.int .i64 t)).toList=(refV { rvZ with d:=d,sup:=s,sl:=sl,sn:=sn,turn:=t }).toArray:=qin k4
 rw [e5]
 rfl
theorem qsl {S:List Nat} {w0 w:World} {L:List (Nat×Obj)} {r3:Nat} {x x0:RV} {K:List Value->World->Prop} (h:Own S w0 w L) (j:Nat) (hj:L[j]?=some (r3,.cells (refV x0).toArray RPT (0,0))) (h0:x0.Ok) (hx:x.Ok) (k:∀ w',Fr S w0 w'->Fr [r3] w w'->K (refV x) w') :
  chk ((refV x).length=64) (st ⟨r3,0,none⟩ (refV x) w fun w'=>ldV 64 ⟨r3,0,none⟩ w' fun vs'=>K vs' w'):=by
 refine Own.stP h j hj h0 hx fun w' h' f'=>?_
 have hjl:=(List.getElem?_eq_some_iff.1 hj).1
 exact Own.ldP h' j (by rw [List.getElem?_set_self hjl]) hx (k w' h'.fr f')
end
theorem qmy {l:List Int} (h:(parseV l).2.2=0):∀ x∈(parseV l).2.1,2<=x:=by
 unfold parseV at h ⊢
 split
 ·rename_i c; rw [if_pos c] at h; exact absurd h (by decide)
 rename_i c; rw [if_neg c] at h
 split
 ·rename_i c; rw [if_pos c] at h; exact absurd h (by decide)
 rename_i c; rw [if_neg c] at h
 split
 ·rename_i c
  intro x hx
  have:=((qfd _ _).1 c).1 x hx
  omega
 ·rename_i c; rw [if_neg c] at h; exact absurd h (by decide)
theorem qsW {D:DiskM} {n:Int} (h:(readV D n).2≠0):(readV D n).1=[]:=by
 unfold readV at h ⊢
 split
 ·rfl
 rename_i c; rw [if_neg c] at h
 split
 ·rfl
 rename_i c; rw [if_neg c] at h
 split
 ·rename_i b hb; rw [hb] at h; exact absurd rfl h
 ·rename_i hb; rw [hb] at h; exact absurd rfl h
theorem qsH (n:Int):(openV n []).2.2≠0:=by
 rw [openV,if_pos (by decide)]
 decide
def prevN (named:List Int) (i:Nat):Int:=if i=0 then 0 else named.getD (i-1) 0
structure RWalk (w:World) (sup:Sup) (a:Int) (lists named:List Int) (w':World) (sl sn:Sl) (B1 B2:List Nat):Prop where
 sz:w.heap.size<=w'.heap.size
 b1:BufU w' sl lists B1
 b2:BufU w' sn named B2
 n1:∀ b∈B1,w.heap.size<=b/\b∉B2
 n2:∀ b∈B2,w.heap.size<=b
 at_:U32 a
 nodup:lists.Nodup
 range:∀ x∈lists,2<=x/\x<sup.2.getD 0 0
 len:named.length<=123*lists.length
 two:∀ x∈named,2<=x
theorem qvE {w:World} {s:Sl} {l:List Int} {B:List Nat} {a:Int} {T:TypeId} {K:Sl->World->Prop} (h:BufU w s l B) (hl:l.length+1<=1000000)
  (kk:∀ s' B' w',BufU w' s' (l++[a]) B'->Fr B w w'->(∀ b∈B',b∈B\/w.heap.size<=b)->K s' w') :
  Pt.new (.cells #[.int .u32 a] T) w fun r w1=>Pt.run [Ty1.one Cell.slice] ((Builtin.append_ #[27,27] 27 #[.slice s.a s.len s.cap,.slice (some ⟨r,0,none⟩) 1 1]).run Tryz.prog w1) K:=qh5 h (by omega) kk
theorem qj4 {S:List Nat} {w:World} {d:RDv} {D:DiskM} {K:List Value×Int->World->Prop} (h:RD S w d D) (hD:D.Ok) (h2:2<=D.safe.length) (hS:∀ b∈S,b<w.heap.size)
  (hno:∀ e,openM D=(none,e)->∀ w',Fr [] w w'->K (refV rvZ,e) w')
  (hk:∀ x' M w',openM D=(some M,0)->RP S w' x' D M->Fr [] w w'->K (refV x',0) w') :
  call Tryz.prog 30 [.agg (rdC d)] [.raw,.one (.int .i64)] w K:=by
 obtain ⟨d0,d1,d2,d3,d4⟩:=d
 refine qhj (d0:=d0) (d1:=d1) (d2:=d2) (d3:=d3) (d4:=d4) ?_
 unfold qdQ
 refine Own.new' (Own.start [] w) fun r1 w1 e1 f1 ho=>?_
 refine Own.newZ ho qbh fun r3 w2 e2 ho2=>?_
 have hsafe:=hD.safe
 have bad:∀ {e:Int} {w':World} {L:List (Nat×Obj)} (i:Nat),openM D=(none,e)->Own [] w w' L->L[i]?=some (r3,.cells (refV rvZ).toArray RPT (0,0))->
   runQ [Ty1.raw] (fun w''=>(Instr.build RPT #[]).run Tryz.prog w'') w' fun vs=>chk (vs.length=64) (st ⟨r3,0,none⟩ vs w' fun w''=>ldV 64 ⟨r3,0,none⟩ w'' fun vs'=>K (vs',e) w''):=by
  intro e w' L i he ho hi
  refine qay (ts:=[Ty1.raw]) (refV rvZ) (qtK w') ?_
  exact qsl (K:=fun vs w=>K (vs,e) w) ho i hi qaq qaq fun w'' f'' _=>hno e he w'' f''
 refine Own.ldD (d:=(d0,d1,d2,d3,d4)) ho2 1 rfl ?_
 refine qgs (h.frame0 ho2.fr) hD fun w3 f3=>?_
 have ho3:=ho2.frame0 f3
 refine qaa (fun hc=>?_) (fun hc=>?_)
 ·have hc:(readV D 0).2≠0:=by simpa using hc
  exact bad 0 (by rw [openM,if_pos hc]) ho3 rfl
 have hc0:¬ (readV D 0).2≠0:=by simpa using hc
 have hdn:D.down=false:=by
  cases hd:D.down with
  | false=>rfl
  | true=>exact absurd (by rw [readV,if_pos hd]; decide) hc0
 have hc1:¬ (readV D 1).2≠0:=by
  rw [readV,if_neg (by rw [hdn]; decide),if_neg (by omega)]
  split <;> simp
 refine Own.ldD (d:=(d0,d1,d2,d3,d4)) ho3 1 rfl ?_
 refine qgs (h.frame0 ho3.fr) hD fun w4 f4=>?_
 have ho4:=ho3.frame0 f4
 have i0:=qa3 hD 0
 have i1:=qa3 hD 1
 refine qr3 i0.1 i1.1 (by omega) (by omega) fun w5 f5=>?_
 have ho5:=ho4.frame0 f5
 have hsl:=qeb (readV D 0).1 (readV D 1).1
 have hnm:newestM D=newestV (readV D 0).1 (readV D 1).1:=by rw [newestM,if_neg hc0,if_neg hc1]
 have hu:=qfB (qkN D)
 have hopen:=qjF D
 rw [hnm] at hu hopen
 generalize newestV (readV D 0).1 (readV D 1).1=sm at hsl hu hopen
 obtain ⟨sup,e⟩:=sm
 simp only at hsl hu hopen
 refine Own.newZ ho5 qbg fun r17 w6 e6 ho6=>?_
 refine qcS ho6 0 rfl rfl hsl fun w7 ho7=>?_
 refine qaa (fun hc=>?_) (fun hc=>?_)
 ·have hc:e≠0:=by simpa using hc
  exact bad 1 (by rw [hopen,if_pos hc]) ho7 rfl
 have he0:¬ e≠0:=by simpa using hc
 rw [if_neg he0] at hopen
 refine Own.ldD (d:=(d0,d1,d2,d3,d4)) ho7 2 rfl ?_
 refine qbn (ho7.at (i:=0) rfl) hsl ?_
 refine qay (ts:=[Ty1.raw]) (refV { rvZ with d:=(d0,d1,d2,d3,d4),sup:=sup }) (qtw hsl w7) ?_
 have kx:RV.Ok { rvZ with d:=(d0,d1,d2,d3,d4),sup:=sup }:=⟨hsl,rfl⟩
 refine Own.newZ ho7 qbh fun r28 w8 e8 ho8=>?_
 refine Own.stP ho8 0 rfl qaq kx fun w9 ho9 f9=>?_
 have hsb:=qb6 (q:=sup.1) (t:=sup.2) 0 (by rw [hsl]; decide)
 have hsli:=qb6 (q:=sup.1) (t:=sup.2) 1 (by rw [hsl]; decide)
 have hsf:=qb6 (q:=sup.1) (t:=sup.2) 2 (by rw [hsl]; decide)
 have hub:=hu 0
 have huf:=hu 2
 refine Own.ld (c:=.int .u32) ho9 1 rfl (sup.2.getD 0 0) hsb ?_
 refine Own.ld (c:=.slice) ho9 3 rfl d0 rfl ?_
 rw [wi' (sup.2.getD 0 0) (by have:=hub.1; have:=hub.2; omega)]
 have hd0:d0.len=D.safe.length:=h.safe.1
 rw [hd0]
 refine qaa (fun hc=>?_) (fun hc=>?_)
 ·have hc:sup.2.getD 0 0≠D.safe.length:=by simpa using hc
  exact bad 2 (by rw [hopen,if_pos hc]) ho9 rfl
 have hbl:¬ sup.2.getD 0 0≠D.safe.length:=by simpa using hc
 rw [if_neg hbl] at hopen
 have hb4:sup.2.getD 0 0<=4096:=by omega
 refine Own.ld (c:=.int .u32) ho9 1 rfl (sup.2.getD 1 0) hsli ?_
 generalize hF0:(sup.2.getD 0 0).toNat+1=F0
 have hload:loadM D sup=match walkM D (sup.2.getD 0 0) F0 (sup.2.getD 1 0) [] [] with | none=>none | some x=>if namedB (sup.2.getD 0 0) x.1 0 x.2=true/\(x.2.length:Int)=sup.2.getD 2 0 then some x else none:=by rw [<- hF0]; rfl
 have none':loadM D sup=none->openM D=(none,2):=fun hn=>by rw [hopen,hn]
 have dk:∀ {w':World},Fr [] w w'->RD S w' (d0,d1,d2,d3,d4) D:=fun f=>h.frame0 f
 refine qvf (n:=F0) (fun f a w'=>∃ lists named sl sn B1 B2,Own [] w w' [(r28,.cells (refV { rvZ with d:=(d0,d1,d2,d3,d4),sup:=sup,sl:=sl,sn:=sn }).toArray RPT (0,0)),(r17,.cells (supV sup.1 sup.2).toArray 58 (0,0)),(r3,.cells (refV rvZ).toArray RPT (0,0)),(r1,.cells (rdC (d0,d1,d2,d3,d4)) RDT (0,0))]/\
   RWalk w9 sup a lists named w' sl sn B1 B2/\f+lists.length=F0/\walkM D (sup.2.getD 0 0) f a lists named=walkM D (sup.2.getD 0 0) F0 (sup.2.getD 1 0) [] [])
  ⟨[],[],⟨none,0,0⟩,⟨none,0,0⟩,[],[],ho9,⟨Nat.le_refl _,.nil _ _ _,.nil _ _ _,by simp,by simp,hu 1,.nil,by simp,by simp,by simp⟩,rfl,rfl⟩ ?_
 rintro f a w10 ⟨lists,named,sl,sn,B1,B2,hoA,H,hf,hwalk⟩ X hX
 have l28:r28<w9.heap.size:=qab (ho9.at (i:=0) rfl)
 have l17:r17<w9.heap.size:=qab (ho9.at (i:=1) rfl)
 have l3:r3<w9.heap.size:=qab (ho9.at (i:=2) rfl)
 have l1:r1<w9.heap.size:=qab (ho9.at (i:=3) rfl)
 have sep:∀ {B:List Nat} {T:List (Nat×Obj)},(∀ b∈B,w9.heap.size<=b)->(∀ p∈T,p.1<w9.heap.size)->∀ p∈T,p.1∉B:=fun hB hT p hp hb=>by have:=hB _ hb; have:=hT p hp; omega
 have kA:RV.Ok { rvZ with d:=(d0,d1,d2,d3,d4),sup:=sup,sl:=sl,sn:=sn }:=⟨hsl,rfl⟩
 have hpos:lists.length<F0:=by
  rcases qcC H.nodup H.range with h | h
  ·omega
  ·rw [h]; simp; omega
 obtain ⟨f,rfl⟩:∃ g,f=g+1:=⟨f-1,by omega⟩
 have hml:=H.len
 have hl4:lists.length<=4096:=by omega
 have rdl:Rd [] w10 sl lists:=Buf.rds qat H.b1 (fun b hb hm=>nomatch hm)
 refine qaa (fun hc1=>?_) (fun hc1=>?_)
 ·have ha0:a≠0:=by simpa using hc1
  rw [walkM,if_neg ha0] at hwalk
  refine qaf (fun b w'=>b=decide (a<2\/a>=sup.2.getD 0 0\/a∈lists)/\w'=w10) ?_ ?_
  ·refine qaa (fun h=>⟨by rw [decide_eq_true (Or.inl (of_decide_eq_true h))],rfl⟩) (fun h=>?_)
   have h1:=of_decide_eq_false h
   refine Own.ld (c:=.int .u32) hoA 1 rfl (sup.2.getD 0 0) hsb ?_
   refine qaa (fun h=>⟨by rw [decide_eq_true (Or.inr (Or.inl (of_decide_eq_true h)))],rfl⟩) (fun h=>?_)
   have h2:=of_decide_eq_false h
   refine Own.ld (c:=.slice) hoA 0 rfl sl (qik kA) ?_
   refine qfo rdl (by omega) ⟨?_,rfl⟩
   refine decide_eq_decide.2 ⟨fun h=>.inr (.inr h),fun h=>?_⟩
   rcases h with h | h | h
   ·exact absurd h h1
   ·exact absurd h h2
   ·exact h
  rintro b w3 ⟨rfl,rfl⟩
  refine qaa (fun h=>?_) (fun h=>?_)
  ·have h:=of_decide_eq_true h
   rw [if_pos h] at hwalk
   exact bad 2 (none' (by rw [hload,<- hwalk])) hoA rfl
  have hbad:=of_decide_eq_false h
  rw [if_neg hbad] at hwalk
  have ha2:2<=a:=by omega
  have hab:a<sup.2.getD 0 0:=by omega
  have hal:a∉lists:=fun h=>hbad (.inr (.inr h))
  refine Own.ldD (d:=(d0,d1,d2,d3,d4)) hoA 3 rfl ?_
  rw [wi' a (by omega)]
  refine qgs (dk hoA.fr) hD fun w11 f11=>?_
  have hri:=qa3 hD a
  refine qlH H.at_ hri.1 (by omega) fun w12 f12=>?_
  have hoB:=qge hri.1 a
  refine qs1 hoB.1 (by have:=hoB.2; omega) fun s7 B7 w13 b7 f13 n7=>?_
  have f3x:=(f11.trans f12).trans f13
  have hoC:=hoA.frame0 f3x
  refine qaf (fun b w'=>b=decide ((openV a (readV D a).1).2.2≠0\/(openV a (readV D a).1).1≠2\/(parseV (openV a (readV D a).1).2.1).2.2≠0)/\w'=w13) ?_ ?_
  ·refine qaa (fun h=>?_) (fun h=>?_)
   ·have h:(openV a (readV D a).1).2.2≠0:=by simpa using h
    exact ⟨by rw [decide_eq_true (Or.inl h)],rfl⟩
   have h:(openV a (readV D a).1).2.2=0:=by simpa using h
   refine qaa (fun h2=>?_) (fun h2=>?_)
   ·have h2:(openV a (readV D a).1).1≠2:=by simpa using h2
    exact ⟨by rw [decide_eq_true (Or.inr (Or.inl h2))],rfl⟩
   have h2:(openV a (readV D a).1).1=2:=by simpa using h2
   refine ⟨?_,rfl⟩
   by_cases h3:(parseV (openV a (readV D a).1).2.1).2.2=0 <;> simp [h,h2,h3]
  rintro b w14 ⟨rfl,rfl⟩
  refine qaa (fun h=>?_) (fun h=>?_)
  ·have h:=of_decide_eq_true h
   refine bad 2 (none' ?_) hoC rfl
   rw [hload,<- hwalk]
   by_cases hr:(readV D a).2≠0
   ·rw [if_pos hr]
   rw [if_neg hr]
   rcases h with h | h | h
   ·rw [if_pos (.inl h)]
   ·rw [if_pos (.inr h)]
   ·by_cases ho':(openV a (readV D a).1).2.2≠0\/(openV a (readV D a).1).1≠2
    ·rw [if_pos ho']
    ·rw [if_neg ho',if_pos h]
  have h:=of_decide_eq_false h
  have hr:¬ (readV D a).2≠0:=fun hr=>h (.inl (by rw [qsW hr]; exact qsH a))
  rw [if_neg hr,if_neg (fun h'=>h (h'.imp id .inl)),if_neg (fun h'=>h (.inr (.inr h')))] at hwalk
  have hpz:(parseV (openV a (readV D a).1).2.1).2.2=0:=Decidable.byContradiction fun h'=>h (.inr (.inr h'))
  have hp2:=qmy hpz
  have hpl:=qmt (openV a (readV D a).1).2.1
  have hpu:=ql7 (openV a (readV D a).1).2.1
  generalize parseV (openV a (readV D a).1).2.1=pv at hwalk b7 hpl hpu hp2
  have b1C:=Buf.frame0 H.b1 f3x
  have b2C:=Buf.frame0 H.b2 f3x
  have l7:∀ b∈B7,w3.heap.size<=b:=fun b hb=>Nat.le_trans (f11.trans f12).size (n7 b hb)
  have hsz:=H.sz
  have hsz3:=f3x.size
  refine Own.ld (c:=.slice) hoC 0 rfl sl (qik kA) ?_
  refine qvE b1C (by omega) fun s9 B9 w15 b9 f15 n9=>?_
  have g1:∀ b∈B1,w9.heap.size<=b:=fun b hb=>(H.n1 b hb).1
  have hoE:=hoC.frame f15 (fun b hb=>.inr (by have:=g1 b hb; have:=ho9.fr.size; omega)) (fun p hp hb=>by
   have:=g1 _ hb
   simp only [List.mem_cons,List.not_mem_nil,or_false] at hp
   rcases hp with rfl | rfl | rfl | rfl
   ·exact absurd this (Nat.not_le.2 l28)
   ·exact absurd this (Nat.not_le.2 l17)
   ·exact absurd this (Nat.not_le.2 l3)
   ·exact absurd this (Nat.not_le.2 l1))
  have b2E:=Buf.frame b2C f15 (fun b hb hb1=>(H.n1 b hb1).2 hb)
  have b7E:=Buf.frame b7 f15 (fun b hb hb1=>by have:=l7 b hb; have:=H.b1.lt b hb1; omega)
  have g9:∀ b∈B9,w9.heap.size<=b:=fun b hb=>by
   rcases n9 b hb with h | h
   ·exact g1 b h
   ·omega
  have sep9:∀ b∈B9,b∉B2:=fun b hb hb2=>by
   rcases n9 b hb with h | h
   ·exact (H.n1 b h).2 hb2
   ·have:=b2C.lt b hb2; omega
  refine Own.st' hoE 0 rfl _ (qpX (s:=s9) kA) rfl (by rw [List.size_toArray,qaw kA]; exact Nat.le_of_ble_eq_true rfl) fun w16 hoF f16=>?_
  have kF:RV.Ok { rvZ with d:=(d0,d1,d2,d3,d4),sup:=sup,sl:=s9,sn:=sn }:=⟨hsl,rfl⟩
  have b9F:=Buf.apart b9 g9 l28 f16
  have g2:∀ b∈B2,w9.heap.size<=b:=H.n2
  have b2F:=Buf.apart b2E g2 l28 f16
  have g7:∀ b∈B7,w9.heap.size<=b:=fun b hb=>by have:=l7 b hb; omega
  have b7F:=Buf.apart b7E g7 l28 f16
  refine Own.ld (c:=.slice) hoF 0 rfl sn (qfb kF) ?_
  refine qmY b2F (Buf.rds (S:=[]) qat b7F (fun b hb hm=>nomatch hm)) (by omega) fun s10 B10 w17 b10 f17 n10=>?_
  have hoG:=hoF.frame f17 (fun b hb=>.inr (by have:=g2 b hb; have:=ho9.fr.size; omega)) (fun p hp hb=>by
   have:=g2 _ hb
   simp only [List.set_cons_zero,List.mem_cons,List.not_mem_nil,or_false] at hp
   rcases hp with rfl | rfl | rfl | rfl
   ·exact absurd this (Nat.not_le.2 l28)
   ·exact absurd this (Nat.not_le.2 l17)
   ·exact absurd this (Nat.not_le.2 l3)
   ·exact absurd this (Nat.not_le.2 l1))
  have b9G:=Buf.frame b9F f17 sep9
  have h1517:=Nat.le_trans f15.size f16.size
  have g10:∀ b∈B10,w9.heap.size<=b:=fun b hb=>by
   rcases n10 b hb with h | h
   ·exact g2 b h
   ·omega
  have sep10:∀ b∈B9,b∉B10:=fun b hb hb2=>by
   rcases n10 b hb2 with h | h
   ·exact sep9 b hb h
   ·have:=b9F.lt b hb; omega
  refine Own.st' hoG 0 rfl _ (qoR (s:=s10) kF) rfl (by rw [List.size_toArray,qaw kF]; exact Nat.le_of_ble_eq_true rfl) fun w18 hoH f18=>?_
  have b9H:=Buf.apart b9G g9 l28 f18
  have b10H:=Buf.apart b10 g10 l28 f18
  refine hX f _ _ ⟨lists++[a],named++pv.2.1,s9,s10,B9,B10,hoH,⟨?_,b9H,b10H,fun b hb=>⟨g9 b hb,sep10 b hb⟩,g10,hpu,?_,?_,?_,?_⟩,?_,hwalk⟩ (by omega)
  ·have:=f17.size; have:=f18.size; omega
  ·rw [List.nodup_append]
   exact ⟨H.nodup,by simp,fun x hx y hy=>by simp at hy; subst hy; exact fun e=>hal (e▸hx)⟩
  ·intro x hx
   rcases List.mem_append.1 hx with h | h
   ·exact H.range x h
   ·simp at h; subst h; exact ⟨ha2,hab⟩
  ·rw [List.length_append,List.length_append]
   have:[a].length=1:=rfl
   omega
  ·intro x hx
   rcases List.mem_append.1 hx with h | h
   ·exact H.two x h
   ·exact hp2 x h
  ·rw [List.length_append]
   have:[a].length=1:=rfl
   omega
 ·have ha0:a=0:=by simpa using hc1
  subst ha0
  rw [walkM,if_pos rfl] at hwalk
  rw [<- hwalk] at hload
  dsimp only at hload
  have rn:Rd [] w10 sn named:=Buf.rds qat H.b2 (fun b hb hm=>nomatch hm)
  have hnl:=rn.1
  refine qag (fun x w'=>∃ i:Nat,x=i/\i<=named.length/\Fr [] w10 w'/\namedB (sup.2.getD 0 0) lists (prevN named i) (named.drop i)=namedB (sup.2.getD 0 0) lists 0 named) (fun x _=>((named.length:Int)-x).toNat) ⟨0,rfl,by omega,.refl _ _,rfl⟩ ?_
  rintro ii w11 ⟨i,rfl,hi,f11,hn⟩ Z hZ
  have ho11:=hoA.frame0 f11
  have rn11:=Rds.frame0 rn f11
  have rl11:=Rds.frame0 rdl f11
  refine Own.ld (c:=.slice) ho11 0 rfl sn (qfb kA) ?_
  rw [hnl]
  refine qaa (fun hc=>?_) (fun hc=>?_)
  ·have hil:i<named.length:=by have:=of_decide_eq_true hc; omega
   have hod:=ho11.drew
   have rnd:Rd [] w11.drew sn named:=Rds.drew rn11
   have rld:Rd [] w11.drew sl lists:=Rds.drew rl11
   rw [List.drop_eq_getElem_cons hil,namedB] at hn
   refine qaf (fun b w3=>b=(decide (named[i]<=prevN named i)||decide (named[i]>=sup.2.getD 0 0)||decide (named[i]∈lists))/\w3=w11.drew) ?_ ?_
   ·refine Own.ld (c:=.slice) hod 0 rfl sn (qfb kA) ?_
    refine Rd.at rnd i rfl (List.getElem?_eq_getElem hil) ?_
    refine Own.ld (c:=.int .u32) hod 1 rfl (sup.2.getD 0 0) hsb ?_
    refine qaa (fun h=>⟨by rw [h]; simp,rfl⟩) (fun h=>?_)
    refine qaa (fun h2=>?_) (fun h2=>?_)
    ·have hi0:0<i:=by have:=of_decide_eq_true h2; omega
     have hpv:prevN named i=named[i-1]:=by rw [prevN,if_neg (by omega)]; exact (List.getElem_eq_getD _).symm
     refine Own.ld (c:=.slice) hod 0 rfl sn (qfb kA) ?_
     refine Rd.at rnd i rfl (List.getElem?_eq_getElem hil) ?_
     refine Own.ld (c:=.slice) hod 0 rfl sn (qfb kA) ?_
     rw [wi' ((i:Int)-1) (by omega)]
     refine Rd.at rnd (i-1) (by omega) (List.getElem?_eq_getElem (by omega)) ?_
     refine qaa (fun h3=>⟨by rw [hpv,h3]; rfl,rfl⟩) (fun h3=>?_)
     refine Own.ld (c:=.slice) hod 0 rfl sl (qik kA) ?_
     refine Own.ld (c:=.slice) hod 0 rfl sn (qfb kA) ?_
     refine Rd.at rnd i rfl (List.getElem?_eq_getElem hil) ?_
     refine qfo rld (by omega) ⟨?_,rfl⟩
     rw [hpv,h3,h]; rfl
    ·have hi0:i=0:=by have:=of_decide_eq_false h2; omega
     subst hi0
     have h2le:=H.two named[0] (List.getElem_mem hil)
     refine Own.ld (c:=.slice) hod 0 rfl sl (qik kA) ?_
     refine Own.ld (c:=.slice) hod 0 rfl sn (qfb kA) ?_
     refine Rd.at rnd 0 rfl (List.getElem?_eq_getElem hil) ?_
     refine qfo rld (by omega) ⟨?_,rfl⟩
     rw [h,decide_eq_false (show ¬ named[0]<=prevN named 0 by show ¬ named[0]<=0; omega)]
     rfl
   rintro b w12 ⟨rfl,rfl⟩
   refine qaa (fun h=>?_) (fun h=>?_)
   ·rw [h] at hn
    refine bad 2 (none' ?_) hod rfl
    rw [hload,if_neg]
    rw [<- hn]
    simp
   ·rw [h] at hn
    rw [wi' _ (by omega)]
    refine hZ _ _ ⟨i+1,by simp,by omega,f11.drew,?_⟩ (by omega)
    have hpv:prevN named (i+1)=named[i]:=by rw [prevN,if_neg (by omega),Nat.add_sub_cancel]; exact (List.getElem_eq_getD _).symm
    rw [hpv]
    simpa using hn
  ·have:i=named.length:=by have:=of_decide_eq_false hc; omega
   subst this
   rw [List.drop_length] at hn
   have hn':namedB (sup.2.getD 0 0) lists 0 named=true:=hn.symm
   refine Own.ld (c:=.slice) ho11 0 rfl sn (qfb kA) ?_
   refine Own.ld (c:=.int .u32) ho11 1 rfl (sup.2.getD 2 0) hsf ?_
   rw [wi' _ (by have:=huf.1; have:=huf.2; omega),hnl]
   refine qaa (fun hc=>?_) (fun hc=>?_)
   ·have hc:¬ (named.length:Int)=sup.2.getD 2 0:=by simpa using hc
    exact bad 2 (none' (by rw [hload,if_neg (fun h=>hc h.2)])) ho11 rfl
   have hfree:(named.length:Int)=sup.2.getD 2 0:=by simpa using hc
   rw [if_pos ⟨hn',hfree⟩] at hload
   rw [hload] at hopen
   refine Own.ldP ho11 0 rfl kA ?_
   have hS9:∀ b∈[r28,r17,r3,r1]++S,b<w9.heap.size:=Own.ltS ho9 hS
   have away:∀ {B:List Nat},(∀ b∈B,w9.heap.size<=b)->∀ b∈B,b∉[r28,r17,r3,r1]++S:=fun hB b hb hm=>by have:=hB b hb; have:=hS9 b hm; omega
   have hop:RD ([r28,r17,r3,r1]++S) w11 (d0,d1,d2,d3,d4) D:=h.opened ho11
   have rp:RP ([r28,r17,r3,r1]++S) w11 { rvZ with d:=(d0,d1,d2,d3,d4),sup:=sup,sl:=sl,sn:=sn } D ⟨sup,lists,named,0,false,[],[],[],zs 24⟩:=
    ⟨hop,rfl,Rds.frame0 (Buf.rds qat H.b1 (away fun b hb=>(H.n1 b hb).1)) f11,Rds.frame0 (Buf.rds qat H.b2 (away H.n2)) f11,rfl,rfl,.nil _ _ _ _,.nil _ _ _ _,.nil _ _ _ _,rfl,kA⟩
   refine qjJ rp ⟨Int.le_refl _,Int.le_of_lt (by show (0:Int)<1000000000; decide)⟩ fun x' w12 hp12 f12=>?_
   have ho12:=ho11.frame0 f12
   refine qsl (K:=fun vs w=>K (vs,0) w) ho12 2 rfl qaq hp12.ok fun w13 f13 g13=>?_
   exact hk x' _ w13 hopen (hp12.closed (by simp) g13) f13
section
def freshR (fresh:List (Int×Int×List Int)):List (Int×List Int):=fresh.map fun e=>(e.1,sealV e.1 e.2.1 e.2.2)
def flushR (D:DiskM) (fresh:List (Int×Int×List Int)) (pages named:List Int) (next:Sup):DiskM×Int:=
 andThen (writesM (freshR fresh) D) fun D=>andThen (spreadM D named pages) fun D=>sealM D next
def overR:PgM:=⟨supZero,[],[],0,true,[],[],[],zs 24⟩
def commitR (D:DiskM) (M:PgM):(DiskM×PgM)×Int:=
 if M.over then ((D,M),7) else
 if M.fresh=[]/\M.deferred=[]/\M.roots=M.sup.2.drop 3 then ((D,M),0) else
 match planM M with
 | none=>((D,M),6)
 | some x=>
  if (flushR D M.fresh x.1 x.2 (nextS M x.1 x.2)).2≠0 then (((flushR D M.fresh x.1 x.2 (nextS M x.1 x.2)).1,overR),(flushR D M.fresh x.1 x.2 (nextS M x.1 x.2)).2)
  else (((flushR D M.fresh x.1 x.2 (nextS M x.1 x.2)).1,begunM (nextS M x.1 x.2) x.1 x.2 (M.turn+1) false x.2),0)
theorem qv4 {M:PgM} (hW:M.Wf):(M.lists.foldl (fun a n=>ins n a) M.deferred).length=(M.deferred++M.lists).length/\
  ∀ k,insAll ((M.deferred++M.lists)++M.free.drop k)=(M.free.drop k).foldl (fun a n=>ins n a) (M.lists.foldl (fun a n=>ins n a) M.deferred):=by
 have hn:=hW.nodup
 have hdl:(M.deferred++M.lists).Nodup:=by
  have h1:=(List.nodup_append.1 hn).2.1
  rw [<- List.append_assoc] at h1
  exact (List.nodup_append.1 h1).1
 refine ⟨(qjt _ _ hdl).length_eq,fun k=>?_⟩
 have hd:=qgh hW.defS
 unfold insAll at hd ⊢
 rw [List.foldl_append,List.foldl_append,hd]
theorem Own.newSt {S:List Nat} {w0 w:World} {L:List (Nat×Obj)} {cs cs':Array Value} {T:TypeId} {vs:List Value} {K:Nat->World->Prop} (h:Own S w0 w L) (hcs:splice cs 0 vs=cs') (h1:(vs.all Value.oneCell')=true) (hl:vs.length<=cs.size)
  (k:∀ r w',r=w.heap.size->Own S w0 w' ((r,.cells cs' T (0,0))::L)->Fr [] w w'->K r w'):Pt.new (.cells cs T (0,0)) w fun r w1=>Pt.st ⟨r,0,none⟩ vs w1 fun w2=>K r w2:=by
 refine Own.new' h fun r w1 e1 f1 ho=>?_
 refine Own.st' ho 0 rfl cs' hcs h1 (by omega) fun w2 ho2 f2=>?_
 exact k r w2 e1 ho2 (f1.trans' f2 fun b hb=>by rw [List.mem_singleton.1 hb,e1]; exact .inr (Nat.le_refl _))
theorem Own.join0 {S:List Nat} {w0 w1 w2:World} {L L':List (Nat×Obj)} (h:Own S w0 w1 L) (h':Own [] w1 w2 L'):Own S w0 w2 (L'++L):=by
 have h1:=h.frame0 h'.fr
 refine ⟨fun p hp=>?_,?_,h1.fr,fun p hp=>?_⟩
 ·rcases List.mem_append.1 hp with hp | hp
  ·exact h'.blk p hp
  ·exact h1.blk p hp
 ·rw [List.map_append,List.nodup_append]
  refine ⟨h'.nodup,h.nodup,fun a ha b hb=>?_⟩
  obtain ⟨p,hp,rfl⟩:=List.mem_map.1 ha
  obtain ⟨q,hq,rfl⟩:=List.mem_map.1 hb
  have hql:=qab (h.blk q hq)
  rcases h'.own p hp with h | h
  ·cases h
  ·omega
 ·rcases List.mem_append.1 hp with hp | hp
  ·rcases h'.own p hp with h2 | h2
   ·cases h2
   ·exact .inr (Nat.le_trans h.fr.size h2)
  ·exact h.own p hp
section
variable {S:List Nat} {w:World} {x:RV} {D:DiskM} {M:PgM}
theorem RP.overV {D':DiskM} {d:RDv} (h:RD S w d D'):RP S w { rvZ with d:=d,over:=true } D' overR:=
 ⟨h,rfl,.nil _ _ _ _,.nil _ _ _ _,rfl,rfl,.nil _ _ _ _,.nil _ _ _ _,.nil _ _ _ _,rfl,⟨rfl,rfl⟩⟩
theorem qsz {k:Nat} {K:List Value×Int->World->Prop} (h:RP S w x D M) (hW:M.Wf) (hlim:Lim D k) (hk6:k+5000<=1000000) (ht:0<=M.turn/\M.turn<=1000000000) (hS:∀ b∈S,b<w.heap.size)
  (kk:∀ x' w',RP S w' x' (commitR D M).1.1 (commitR D M).1.2->Fr [] w w'->K (refV x',(commitR D M).2) w') :
  call Tryz.prog 67 [.agg (refV x).toArray] [.raw,.one (.int .i64)] w K:=by
 have hall:=PgM.Wf.all M hW
 refine qdE (p:=refV x) ?_
 unfold qbN
 have hx:=h.ok
 have hsl:M.sup.2.length=27:=by rw [<- h.sup]; exact hx.sup
 have hrl:M.roots.length=24:=by rw [<- h.roots]; exact hx.roots
 have hsr:(M.sup.2.drop 3).length=24:=by rw [List.length_drop,hsl]
 refine Own.new' (Own.start [] w) fun r1 w1 e1 f1 ho=>?_
 refine Own.newZ ho qbh fun r3 w2 e2 ho=>?_
 have same:∀ {e:Int} {w':World},commitR D M=((D,M),e)->Fr [] w w'->K (refV x,e) w':=fun he f=>by
  have:=kk x _ (by rw [he]; exact h.frame0 f) f
  rw [he] at this
  exact this
 refine Own.ld (c:=.bool) ho 1 rfl x.over (qda hx) ?_
 refine qaa (fun hc=>?_) (fun hc=>?_)
 ·exact qbI (K:=fun vs w=>K (vs,7) w) ho 1 0 rfl rfl qaq hx fun w4 f4 _=>same (by rw [commitR,if_pos (by rw [<- h.over]; exact hc)]) f4
 have ho0:¬ M.over=true:=by rw [<- h.over,hc]; decide
 have h2:=h.opened ho
 have hfl:=h2.fresh.1
 have hdl:=h2.deferred.1
 have hel:=h2.free.1
 have hll:=h2.lists.1
 have hT:∀ b∈[r3,r1]++S,b<w2.heap.size:=Own.ltS ho hS
 refine qaf (fun b w'=>b=decide (M.fresh=[]/\M.deferred=[]/\M.roots=M.sup.2.drop 3)/\w'=w2) ?_ ?_
 ·refine Own.ld (c:=.slice) ho 1 rfl x.sfr (qbt hx) ?_
  rw [hfl]
  refine qaa (fun hc1=>?_) (fun hc1=>?_)
  ·have h1:M.fresh=[]:=List.eq_nil_of_length_eq_zero (by have:(M.fresh.length:Int)=0:=(by simpa using hc1); omega)
   refine Own.ld (c:=.slice) ho 1 rfl x.sd (qoE hx) ?_
   rw [hdl]
   refine qaa (fun hc2=>?_) (fun hc2=>?_)
   ·have h2:M.deferred=[]:=List.eq_nil_of_length_eq_zero (by have:(M.deferred.length:Int)=0:=(by simpa using hc2); omega)
    refine qas (b:=r1) (off:=40) (ho.at (i:=1) rfl) (M.roots.map (Value.int .u32)) (by rw [List.length_map,hrl]) (by rw [<- h.roots]; exact qo6 hx) ?_
    refine qas (b:=r1) (off:=9) (ho.at (i:=1) rfl) ((M.sup.2.drop 3).map (Value.int .u32)) (by rw [List.length_map,hsr]) (by rw [<- h.sup]; exact qnJ hx) ?_
    refine qmL hrl hsr ⟨?_,rfl⟩
    simp [h1,h2]
   ·have h2:M.deferred≠[]:=fun e=>by rw [e] at hc2; simp at hc2
    exact ⟨by simp [h2],rfl⟩
  ·have h1:M.fresh≠[]:=fun e=>by rw [e] at hc1; simp at hc1
   exact ⟨by simp [h1],rfl⟩
 rintro b w3 ⟨rfl,rfl⟩
 refine qaa (fun hc=>?_) (fun hc=>?_)
 ·exact qbI (K:=fun vs w=>K (vs,0) w) ho 1 0 rfl rfl qaq hx fun w4 f4 _=>same (by rw [commitR,if_neg ho0,if_pos (of_decide_eq_true hc)]) f4
 have hne:=of_decide_eq_false hc
 refine Own.ld (c:=.slice) ho 1 rfl x.sd (qoE hx) ?_
 obtain ⟨plen,pins⟩:=qv4 hW
 have rdT:∀ {s:Sl} {l:List Int} {B:List Nat} {wa wb:World},BufU wb s l B->w3.heap.size<=wa.heap.size->(∀ b∈B,wa.heap.size<=b)->Rd ([r3,r1]++S) wb s l:=fun hb hsz hB=>
  Buf.rds qat hb fun b hb1 hb2=>by have:=hB b hb1; have:=hT b hb2; omega
 refine qag (fun y w'=>∃ i:Nat,y.2=i/\i<=M.lists.length/\Fr [] w3 w'/\Rd ([r3,r1]++S) w' y.1 ((M.lists.take i).foldl (fun a n=>ins n a) M.deferred)) (fun y _=>((M.lists.length:Int)-y.2).toNat)
  ⟨0,rfl,by omega,.refl _ _,h2.deferred⟩ ?_
 rintro ⟨s4,y⟩ w4 ⟨i,hy,hi,f4,hr4⟩ X hX
 simp only at hy hr4
 subst hy
 dsimp only
 have ho4:=ho.frame0 f4
 refine Own.ld (c:=.slice) ho4 1 rfl x.sl (qik hx) ?_
 rw [hll]
 have folds:∀ (l a:List Int),(l.foldl (fun a n=>ins n a) a).length<=a.length+l.length:=by
  intro l
  induction l with
  | nil=>intro a; simp
  | cons x l ih=>
   intro a
   have h1:=ih (ins x a)
   have h2:=qnf x a
   rw [List.foldl_cons,List.length_cons]
   omega
 refine qaa (fun hc=>?_) (fun hc=>?_)
 ·have hil:i<M.lists.length:=by have:=of_decide_eq_true hc; omega
  refine Own.ld (c:=.slice) ho4 1 rfl x.sl (qik hx) ?_
  refine Rd.at (h2.lists.frame0 f4) i rfl (List.getElem?_eq_getElem hil) ?_
  have hlen:=folds (M.lists.take i) M.deferred
  rw [List.length_take] at hlen
  refine qj7 hr4 (by omega) fun s5 B5 w5 b5 f5 n5=>?_
  rw [qif (qcD _ _ hW.defS)] at b5
  rw [wi' _ (by omega)]
  refine hX _ _ ⟨i+1,by simp,by omega,f4.trans f5,?_⟩ (by dsimp only; omega)
  rw [List.take_succ_eq_append_getElem hil,List.foldl_append]
  exact rdT b5 f4.size n5
 have hie:i=M.lists.length:=by have:=of_decide_eq_false hc; omega
 subst hie
 rw [List.take_length] at hr4
 have h4l:=hr4.1
 generalize hacc:M.lists.foldl (fun a n=>ins n a) M.deferred=acc at hr4 plen pins h4l
 have haccs:acc.Pairwise (· < ·):=by rw [<- hacc]; exact qcD _ _ hW.defS
 have hdll:(M.deferred++M.lists).length<=4096:=by rw [List.length_append]; omega
 refine Own.ld (c:=.slice) ho4 1 rfl x.sf (qd7 hx) ?_
 have hnd:IntKind.wrap .i64 ((x.sf.len:Int)+(s4.len:Int))=((M.free.length+(M.deferred++M.lists).length:Nat):Int):=by rw [wi' _ (by omega)]; omega
 rw [hnd]
 refine qpi (by omega) ?_
 generalize hkk:needP (M.free.length+(M.deferred++M.lists).length)=kn
 refine Own.ld (c:=.slice) ho4 1 rfl x.sf (qd7 hx) ?_
 rw [hel]
 refine qaa (fun hc=>?_) (fun hc=>?_)
 ·have hgt:kn>M.free.length:=by have:=of_decide_eq_true hc; omega
  exact qbI (K:=fun vs w=>K (vs,6) w) ho4 1 0 rfl rfl qaq hx fun w5 f5 _=>same (by rw [commitR,if_neg ho0,if_neg hne,planM,hkk,if_pos hgt]) f5
 have hkn:¬ kn>M.free.length:=by have:=of_decide_eq_false hc; omega
 have hpl:planM M=some (M.free.take kn,(M.free.drop kn).foldl (fun a n=>ins n a) acc):=by rw [planM,hkk,if_neg hkn,pins]
 have hlo:=qbz hW hpl
 have hnu:=qj3 hW hpl
 generalize hpages:M.free.take kn=pages at hpl hlo hnu
 generalize hnamed:(M.free.drop kn).foldl (fun a n=>ins n a) acc=named at hpl hlo hnu
 have hplen:pages.length=kn:=by rw [<- hpages,List.length_take]; omega
 have hnlen:named.length<=4096:=by
  rw [<- hnamed]
  have:=folds (M.free.drop kn) acc
  rw [List.length_drop] at this
  rw [List.length_append] at plen hdll
  omega
 have hcm:commitR D M=if (flushR D M.fresh pages named (nextS M pages named)).2≠0 then (((flushR D M.fresh pages named (nextS M pages named)).1,overR),(flushR D M.fresh pages named (nextS M pages named)).2)
  else (((flushR D M.fresh pages named (nextS M pages named)).1,begunM (nextS M pages named) pages named (M.turn+1) false named),0):=by rw [commitR,if_neg ho0,if_neg hne,hpl]
 refine Own.ld (c:=.slice) ho4 1 rfl x.sf (qd7 hx) ?_
 refine Rds.upto (h2.free.frame0 f4) kn rfl (by omega) fun sp rp=>?_
 rw [hpages] at rp
 refine qag (fun y w'=>∃ j:Nat,y.2=((kn+j:Nat):Int)/\kn+j<=M.free.length/\Fr [] w4 w'/\Rd ([r3,r1]++S) w' y.1 (((M.free.drop kn).take j).foldl (fun a n=>ins n a) acc)) (fun y _=>((M.free.length:Int)-y.2).toNat)
  ⟨0,rfl,by omega,.refl _ _,hr4⟩ ?_
 rintro ⟨s5,y⟩ w5 ⟨j,hy,hj,f5,hr5⟩ Y hY
 simp only at hy hr5
 subst hy
 dsimp only
 have ho5:=ho4.frame0 f5
 have f35:=f4.trans f5
 refine Own.ld (c:=.slice) ho5 1 rfl x.sf (qd7 hx) ?_
 rw [hel]
 refine qaa (fun hc=>?_) (fun hc=>?_)
 ·have hil:kn+j<M.free.length:=by have:=of_decide_eq_true hc; omega
  have hjl:j<(M.free.drop kn).length:=by rw [List.length_drop]; omega
  refine Own.ld (c:=.slice) ho5 1 rfl x.sf (qd7 hx) ?_
  refine Rd.at (h2.free.frame0 f35) (kn+j) rfl (List.getElem?_eq_getElem hil) ?_
  have hlen:=folds ((M.free.drop kn).take j) acc
  rw [List.length_take] at hlen
  rw [List.length_append] at plen hdll
  refine qj7 hr5 (by omega) fun s6 B6 w6 b6 f6 n6=>?_
  rw [qif (qcD _ _ haccs)] at b6
  rw [wi' _ (by omega)]
  refine hY _ _ ⟨j+1,by dsimp only; omega,by omega,f5.trans f6,?_⟩ (by dsimp only; omega)
  have hg:(M.free.drop kn)[j]=M.free[kn+j]:=List.getElem_drop
  rw [List.take_succ_eq_append_getElem hjl,List.foldl_append,hg]
  exact rdT b6 f35.size n6
 have hje:kn+j=M.free.length:=by have:=of_decide_eq_false hc; omega
 rw [List.take_of_length_le (by rw [List.length_drop]; omega),hnamed] at hr5
 have h5l:=hr5.1
 refine Own.ld (c:=.int .u64) ho5 1 rfl M.sup.1 (by rw [<- h.sup]; exact qv3 hx) ?_
 refine Own.ld (c:=.int .u32) ho5 1 rfl (M.sup.2.getD 0 0) (by rw [<- h.sup]; exact qtA hx 0 (by decide)) ?_
 refine qas (b:=r1) (off:=40) (ho5.at (i:=1) rfl) (M.roots.map (Value.int .u32)) (by rw [List.length_map,hrl]) (by rw [<- h.roots]; exact qo6 hx) ?_
 refine qay (ts:=[Ty1.raw]) (supV (IntKind.wrap .u64 (M.sup.1+1)) ([M.sup.2.getD 0 0,0,IntKind.wrap .u32 (named.length:Int)]++M.roots)) (by rw [h5l]; exact ql2 hrl _) ?_
 have l27:([M.sup.2.getD 0 0,0,IntKind.wrap .u32 (named.length:Int)]++M.roots).length=27:=by rw [List.length_append,hrl]; rfl
 have n27:(nextS M pages named).2.length=27:=by
  show ([M.sup.2.getD 0 0,pages.headD 0,IntKind.wrap .u32 (named.length:Int)]++M.roots).length=27
  rw [List.length_append,hrl]; rfl
 have hq64:U64 (nextS M pages named).1:=by
  show U64 (IntKind.wrap .u64 (M.sup.1+1))
  unfold IntKind.wrap
  have:(IntKind.u64.signed)=false:=rfl
  simp only [this,Bool.false_and,Bool.false_eq_true,if_false]
  exact ⟨Int.emod_nonneg _ (by decide),Int.emod_lt_of_pos _ (by decide)⟩
 refine Own.newZ (Own.start [] w5) qbg fun r54 w6 e6 ho6'=>?_
 refine qcS ho6' 0 rfl rfl l27 fun w7 ho7'=>?_
 have f57:=ho7'.fr
 have ho7:=Own.join0 ho5 ho7'
 have rp7:Rd [] w7 sp pages:=Rds.frame0 (Rds.weak rp fun b hb=>nomatch hb) (f5.trans f57)
 refine qaf (fun _ w'=>Own [] w w' [(r54,.cells (supV (nextS M pages named).1 (nextS M pages named).2).toArray 58 (0,0)),(r3,.cells (refV rvZ).toArray RPT (0,0)),(r1,.cells (refV x).toArray RPT (0,0))]/\Fr [r54] w7 w') ?_ ?_
 ·refine qaa (fun hc=>?_) (fun hc=>?_)
  ·have hp0:0<pages.length:=by have:=of_decide_eq_true hc; omega
   refine Rd.at rp7 0 rfl (List.getElem?_eq_getElem hp0) ?_
   refine Own.st' ho7 0 rfl (supV (nextS M pages named).1 (nextS M pages named).2).toArray ?_ rfl (by rw [qcn l27]; exact Nat.le_of_ble_eq_true rfl) fun w8 ho8 f8=>⟨ho8,f8⟩
   have hh:pages.headD 0=pages[0]:=by
    cases pages with
    | nil=>simp at hp0
    | cons a r=>rfl
   show splice (supV _ ([M.sup.2.getD 0 0]++0::(IntKind.wrap .u32 (named.length:Int)::M.roots))).toArray 2 [.int .u32 pages[0]]=_
   have:=qhX (q:=IntKind.wrap .u64 (M.sup.1+1)) (x:=0) (y:=pages[0]) (A:=[M.sup.2.getD 0 0]) (Z:=IntKind.wrap .u32 (named.length:Int)::M.roots)
   refine this.trans ?_
   rw [nextS,hh]
   rfl
  ·have hp0:pages=[]:=List.eq_nil_of_length_eq_zero (by have:=of_decide_eq_false hc; omega)
   have e:supV (nextS M pages named).1 (nextS M pages named).2=supV (IntKind.wrap .u64 (M.sup.1+1)) ([M.sup.2.getD 0 0,0,IntKind.wrap .u32 (named.length:Int)]++M.roots):=by
    rw [nextS,hp0]; rfl
   rw [e]
   exact ⟨ho7,.refl _ _⟩
 rintro _ w8 ⟨ho8,f78⟩
 have l54:w5.heap.size<=r54:=by rw [e6]; exact Nat.le_refl _
 have f58:Fr [] w5 w8:=f57.trans' f78 fun b hb=>by rw [List.mem_singleton.1 hb]; exact .inr l54
 have f38:Fr [] w3 w8:=f35.trans f58
 have rp8:Rd [] w8 sp pages:=Rds.frame0 (Rds.weak rp fun b hb=>nomatch hb) (f5.trans f58)
 have rn8:Rd [] w8 s5 named:=Rds.frame0 (Rds.weak hr5 fun b hb=>nomatch hb) f58
 have rf8:=h2.fresh.frame0 f38
 refine Own.ldA (cl:=dC) ho8 2 rfl x.d (qvN hx) ?_
 refine Own.newSt ho8 (cs':=rdC x.d) rfl rfl (Nat.le_of_ble_eq_true rfl) fun r64 w9 e9 ho9 f9=>?_
 have f39:=f38.trans f9
 have rf9:=h2.fresh.frame0 f39
 have hd9:RD ([r64,r54,r3,r1]++S) w9 x.d D:=h.disk.opened ho9
 have hS9:∀ b∈[r64,r54,r3,r1]++S,b<w9.heap.size:=Own.ltS ho9 hS
 have hbody:=hW.body
 have hkeyU:∀ e∈M.fresh,U32 e.1:=fun e he=>by
  have:=hW.range e.1 (List.mem_append_right _ (List.mem_append_right _ (List.mem_append_right _ (List.mem_map_of_mem he))))
  have:=hW.n4
  constructor <;> omega
 have fail:∀ {D':DiskM} {d':RDv} {w':World} {e:Int} {L:List (Nat×Obj)} (i j:Nat),flushR D M.fresh pages named (nextS M pages named)=(D',e)->e≠0->Own [] w w' L->L[i]?=some (r64,.cells (rdC d') RDT (0,0))->L[j]?=some (r3,.cells (refV rvZ).toArray RPT (0,0))->RD ([r64,r54,r3,r1]++S) w' d' D'->
   ldA dC ⟨r64,0,none⟩ w' fun t=>runQ [Ty1.raw] (fun w''=>(Instr.build RPT #[(0,.agg (HL.mk dC t).toArray),(5,.bool true)]).run Tryz.prog w'') w' fun vs=>chk (vs.length=64) (st ⟨r3,0,none⟩ vs w' fun w''=>ldV 64 ⟨r3,0,none⟩ w'' fun vs'=>K (vs',e) w''):=by
  intro D' d' w' e L i j hfl he ho hi hj hd
  refine Own.ldD ho i hi ?_
  refine qay (ts:=[Ty1.raw]) (refV { rvZ with d:=d',over:=true }) (qtN w') ?_
  refine qsl (K:=fun vs w=>K (vs,e) w) ho j hj qaq ⟨rfl,rfl⟩ fun w'' f'' g''=>?_
  have hres:commitR D M=((D',overR),e):=by rw [hcm,hfl]; exact if_pos he
  have:=kk { rvZ with d:=d',over:=true } w'' (by rw [hres]; exact RP.overV (hd.keep (r:=r3) (by simp) g'').less) f''
  rw [hres] at this
  exact this
 have hflu:∀ {D':DiskM} {l:List (Int×List Int)},andThen (writesM (freshR M.fresh) D) (fun D=>andThen (spreadM D named pages) fun D=>sealM D (nextS M pages named))=andThen (writesM l D') (fun D=>andThen (spreadM D named pages) fun D=>sealM D (nextS M pages named))->flushR D M.fresh pages named (nextS M pages named)=andThen (writesM l D') (fun D=>andThen (spreadM D named pages) fun D=>sealM D (nextS M pages named)):=fun h=>h
 refine qag (fun y w'=>∃ (i:Nat) (d':RDv) (D':DiskM),y=i/\i<=M.fresh.length/\Own [] w w' [(r64,.cells (rdC d') RDT (0,0)),(r54,.cells (supV (nextS M pages named).1 (nextS M pages named).2).toArray 58 (0,0)),(r3,.cells (refV rvZ).toArray RPT (0,0)),(r1,.cells (refV x).toArray RPT (0,0))]/\Fr [r64] w9 w'/\RD ([r64,r54,r3,r1]++S) w' d' D'/\Lim D' (k+i)/\
   flushR D M.fresh pages named (nextS M pages named)=andThen (writesM ((freshR M.fresh).drop i) D') (fun D=>andThen (spreadM D named pages) fun D=>sealM D (nextS M pages named))) (fun y _=>((M.fresh.length:Int)-y).toNat)
  ⟨0,x.d,D,rfl,by omega,ho9,.refl _ _,hd9,hlim,rfl⟩ ?_
 rintro y w10 ⟨i,d',D',rfl,hi,ho10,f10,hd10,hl10,he⟩ X hX
 have f9w:Fr [] w8 w10:=f9.trans' f10 fun b hb=>by rw [List.mem_singleton.1 hb,e9]; exact .inr (Nat.le_refl _)
 have rf10:=rf8.frame0 f9w
 refine Own.ld (c:=.slice) ho10 3 rfl x.sfr (qbt hx) ?_
 rw [hfl]
 refine qaa (fun hc=>?_) (fun hc=>?_)
 ·have hil:i<M.fresh.length:=by have:=of_decide_eq_true hc; omega
  have hbo:=hbody M.fresh[i] (List.getElem_mem hil)
  have hku:=hkeyU M.fresh[i] (List.getElem_mem hil)
  refine Own.ld (c:=.slice) ho10 3 rfl x.sfr (qbt hx) ?_
  refine Rds.getA rf10 i (cl:=[Cell.int .u32,Cell.int .u8,Cell.str]) rfl (List.getElem?_eq_getElem hil) rfl (y:=(M.fresh[i].1,M.fresh[i].2.1,strOf M.fresh[i].2.2)) rfl ?_
  refine Own.newSt (Own.start [] w10) (cs':=#[.int .u32 M.fresh[i].1,.int .u8 M.fresh[i].2.1,.string (strOf M.fresh[i].2.2)]) rfl rfl (Nat.le_of_ble_eq_true rfl) fun r74 w11 e11 ho11' f11=>?_
  have ho11:=Own.join0 ho10 ho11'
  have hd11:=hd10.frame0 f11
  refine Own.ld (c:=.int .u32) ho11 0 rfl M.fresh[i].1 rfl ?_
  refine Own.ld (c:=.int .u8) ho11 0 rfl M.fresh[i].2.1 rfl ?_
  refine Own.ld (c:=.str) ho11 0 rfl (strOf M.fresh[i].2.2) rfl ?_
  refine qig hku hbo.1 hbo.2.2 (fun h=>absurd h (by omega)) fun _ w12 f12=>?_
  have ho12:=ho11.frame0 f12
  have hd12:=hd11.frame0 f12
  refine Own.ldD (d:=d') ho12 1 rfl ?_
  refine Own.ld (c:=.int .u32) ho12 0 rfl M.fresh[i].1 rfl ?_
  rw [wi' M.fresh[i].1 (by have:=hku.1; have:=hku.2; omega)]
  have hw:=hl10.waits
  have hr:=hl10.writes
  have hsz:∀ b∈[r64,r54,r3,r1]++S,b<w12.heap.size:=fun b hb=>Nat.lt_of_lt_of_le (hS9 b hb) (Nat.le_trans f10.size (Nat.le_trans f11.size f12.size))
  refine qdy hd12 hl10.ok hsz (by omega) (by omega) fun d13 w13 hd13 f13=>?_
  have ho13:=ho12.frame0 f13
  refine Own.stD' (d:=d') ho13 1 rfl fun w14 ho14 f14=>?_
  have hd14:=hd13.keep (r:=r64) (by simp) f14
  have hlf:i<(freshR M.fresh).length:=by rw [freshR,List.length_map]; exact hil
  have hge:(freshR M.fresh)[i]=(M.fresh[i].1,sealV M.fresh[i].1 M.fresh[i].2.1 M.fresh[i].2.2):=by simp [freshR]
  rw [List.drop_eq_getElem_cons hlf,hge,writesM] at he
  refine qaa (fun hc2=>?_) (fun hc2=>?_)
  ·have hne2:(writeM D' M.fresh[i].1 (sealV M.fresh[i].1 M.fresh[i].2.1 M.fresh[i].2.2)).2≠0:=by simpa using hc2
   rw [qaL hne2,qaL hne2] at he
   exact fail 1 3 he hne2 ho14 rfl rfl hd14
  ·have heq:(writeM D' M.fresh[i].1 (sealV M.fresh[i].1 M.fresh[i].2.1 M.fresh[i].2.2)).2=0:=by simpa using hc2
   rw [qaW heq] at he
   rw [wi' _ (by omega)]
   refine hX _ _ ⟨i+1,d13,_,by simp,by omega,ho14.sub (List.Sublist.cons _ (List.Sublist.refl _)),?_,hd14,(hl10.write (by omega) (qcj hbo.1 hbo.2.2)).mono (by omega),he⟩ (by omega)
   exact (f10.trans (((f11.trans f12).trans f13).mono fun b hb=>nomatch hb)).trans f14
 have hie:i=M.fresh.length:=by have:=of_decide_eq_false hc; omega
 subst hie
 rw [List.drop_eq_nil_of_le (by rw [freshR,List.length_map]; exact Nat.le_refl _)] at he
 have he:flushR D M.fresh pages named (nextS M pages named)=andThen (spreadM D' named pages) fun D=>sealM D (nextS M pages named):=he
 have hpu:∀ x∈pages,U32 x:=fun x hx=>by have:=hlo.pgs x hx; have:=hW.n4; constructor <;> omega
 have hnu':∀ x∈named,U32 x:=fun x hx=>by have:=hlo.nums x hx; have:=hW.n4; constructor <;> omega
 have hplf:pages.length<=M.free.length:=by omega
 refine Own.ldD (d:=d') ho10 0 rfl ?_
 refine qmz hd10 hl10 (by omega) (by have:=Own.ltS ho10 hS; exact this) (rn8.frame0 f9w) (rp8.frame0 f9w) (by omega) (by omega) hnu' hpu (by rw [hlo.bodies]) fun d11 w11 hd11 f11=>?_
 have hl11:=hl10.spread (numbers:=named) (pages:=pages) (by omega)
 have ho11:=ho10.frame0 f11
 refine Own.stD' (d:=d') ho11 0 rfl fun w12 ho12 f12=>?_
 have hd12:=hd11.keep (r:=r64) (by simp) f12
 refine qaa (fun hc2=>?_) (fun hc2=>?_)
 ·have hne2:(spreadM D' named pages).2≠0:=by simpa using hc2
  rw [qaL hne2] at he
  exact fail 0 2 he hne2 ho12 rfl rfl hd12
 have heq:(spreadM D' named pages).2=0:=by simpa using hc2
 rw [qaW heq] at he
 refine Own.ldD (d:=d11) ho12 0 rfl ?_
 refine qbn (ho12.at (i:=1) rfl) n27 ?_
 refine qnS (s:=nextS M pages named) hd12 hl11 (by omega) (by have:=Own.ltS ho12 hS; exact this) hq64 n27 hnu fun d13 w13 hd13 f13=>?_
 have ho13:=ho12.frame0 f13
 refine Own.stD' (d:=d11) ho13 0 rfl fun w14 ho14 f14=>?_
 have hd14:=hd13.keep (r:=r64) (by simp) f14
 refine qaa (fun hc2=>?_) (fun hc2=>?_)
 ·have hne2:(sealM (spreadM D' named pages).1 (nextS M pages named)).2≠0:=by simpa using hc2
  exact fail 0 2 he hne2 ho14 rfl rfl hd14
 have heq2:(sealM (spreadM D' named pages).1 (nextS M pages named)).2=0:=by simpa using hc2
 refine Own.ldD (d:=d13) ho14 0 rfl ?_
 refine qbn (ho14.at (i:=1) rfl) n27 ?_
 refine Own.ld (c:=.int .i64) ho14 3 rfl M.turn (by rw [<- h.turn]; exact qm6 hx) ?_
 refine qay (ts:=[Ty1.raw]) (refV { rvZ with d:=d13,sup:=nextS M pages named,sl:=sp,sn:=s5,turn:=M.turn }) (qsT n27 w14) ?_
 have kx:RV.Ok { rvZ with d:=d13,sup:=nextS M pages named,sl:=sp,sn:=s5,turn:=M.turn }:=⟨n27,rfl⟩
 have f814:Fr [r64] w9 w14:=((f10.trans ((f11.mono fun b hb=>nomatch hb):Fr [r64] w10 w11)).trans (f12.trans (f13.mono fun b hb=>nomatch hb))).trans f14
 have hin:∀ {s:Sl} {l:List Int},Rd ([r3,r1]++S) w5 s l->Rd ([r64,r54,r3,r1]++S) w14 s l:=fun hr=>by
  have a:=hr.frame0 (f58.trans f9)
  have b:Rd ([r64,r54,r3,r1]++S) w9 _ _:=Rds.frame hr ((f58.trans f9).mono fun i hi=>nomatch hi) fun b hb=>by
   simp only [List.cons_append,List.nil_append,List.mem_cons] at hb ⊢
   have h59:=f58.size
   rcases hb with rfl | rfl | hb
   ·exact .inr (by omega)
   ·exact .inr l54
   ·exact .inl hb
  exact b.frame (f814.mono fun i hi _=>by rw [List.mem_singleton.1 hi]; simp) fun b hb=>.inl hb
 have rpx:RP ([r64,r54,r3,r1]++S) w14 { rvZ with d:=d13,sup:=nextS M pages named,sl:=sp,sn:=s5,turn:=M.turn } (sealM (spreadM D' named pages).1 (nextS M pages named)).1 ⟨nextS M pages named,pages,named,M.turn,false,[],[],[],zs 24⟩:=
  ⟨hd14,rfl,hin (rp.frame0 f5),hin hr5,rfl,rfl,.nil _ _ _ _,.nil _ _ _ _,.nil _ _ _ _,rfl,kx⟩
 refine qjJ rpx ht fun x' w15 hp15 f15=>?_
 have ho15:=ho14.frame0 f15
 refine qsl (K:=fun vs w=>K (vs,0) w) ho15 2 rfl qaq hp15.ok fun w16 f16 g16=>?_
 have hres:commitR D M=(((sealM (spreadM D' named pages).1 (nextS M pages named)).1,begunM (nextS M pages named) pages named (M.turn+1) false named),0):=by
  rw [hcm,he,if_neg (by rw [heq2]; simp)]
 have:=kk x' w16 (by rw [hres]; exact hp15.closed (by simp) g16) f16
 rw [hres] at this
 exact this
end
end
def fuseM (D:DiskM) (n:Int):DiskM:=if D.down then D else { D with fuse:=if n<0 then -1 else n }
def bnd (n:Int):Nat:=if n<0 then 0 else if n>512 then 512 else n.toNat
theorem qmO (n:Int):bnd n<=512:=by unfold bnd; split <;> (try split) <;> omega
theorem qu4 (x:Int):(if 512<(if 0>x then 0 else x) then 512 else (if 0>x then 0 else x))=(bnd x:Int):=by
 unfold bnd
 by_cases h:x<0
 ·rw [if_pos (show 0>x from h),if_pos h]; rfl
 ·rw [if_neg (show ¬ 0>x from h),if_neg h]
  by_cases h2:x>512
  ·rw [if_pos h2,if_pos h2]; rfl
  ·rw [if_neg h2,if_neg h2]; omega
def overlayB (old new:Blk) (f t:Nat):Blk:=if h:f<t/\t<=512 then ⟨old.1.take f++(new.1.drop f).take (t-f)++old.1.drop t,by
 have h1:=old.2
 have h2:=new.2
 simp only [List.length_append,List.length_take,List.length_drop]
 omega⟩ else old
def crashStep (s:List Blk) (x:(Int×Blk)×(Int×Int)):List Blk:=s.set x.1.1.toNat (overlayB (s.getD x.1.1.toNat .zero) x.1.2 (bnd x.2.1) (bnd x.2.2))
theorem qdc (l:List ((Int×Blk)×(Int×Int))):∀ s:List Blk,(l.foldl crashStep s).length=s.length:=by
 induction l with
 | nil=>intro s; rfl
 | cons x l ih=>intro s; rw [List.foldl_cons,ih,crashStep,List.length_set]
def crashM (D:DiskM) (ls:List (Int×Int)):DiskM:={ D with safe:=(D.waits.zip ls).foldl crashStep D.safe,waits:=[],down:=false,fuse:=-1 }
theorem qqs {old new:Blk} {f t:Nat} (h1:IsB old.1) (h2:IsB new.1):IsB (overlayB old new f t).1:=by
 unfold overlayB
 split
 ·exact ((h1.take _).append ((h2.drop _).take _)).append (h1.drop _)
 ·exact h1
theorem qnU:∀ (l:List ((Int×Blk)×(Int×Int))) (s:List Blk),(∀ x∈l,IsB x.1.2.1)->(∀ b∈s,IsB b.1)->∀ b∈l.foldl crashStep s,IsB b.1
 | [],s,_,h=>h
 | x::l,s,hl,h=>qnU l (crashStep s x) (fun y hy=>hl y (List.mem_cons_of_mem _ hy)) fun b hb=>by
  rcases List.mem_or_eq_of_mem_set hb with hb | rfl
  ·exact h b hb
  ·refine qqs ?_ (hl x (by simp))
   rw [List.getD_eq_getElem?_getD]
   cases he:s[x.1.1.toNat]? with
   | none=>exact IsB.zs 512
   | some c=>exact h c (List.mem_of_getElem? he)
theorem Lim.crash {D:DiskM} {k:Nat} {ls:List (Int×Int)} (h:Lim D k):Lim (crashM D ls) k:=
 ⟨⟨fun x hx=>(by cases hx),by show -1<=(-1:Int)/\(-1:Int)<=1000000000; decide,by show ((D.waits.zip ls).foldl crashStep D.safe).length<=4096; rw [qdc]; exact h.ok.safe,by simp [crashM],h.ok.writes,qnU _ _ (fun x hx=>h.ok.bytesW _ (List.of_mem_zip hx).1) h.ok.bytesS,fun x hx=>(by cases hx)⟩,by simp [crashM],h.writes⟩
theorem Lim.fuse {D:DiskM} {k:Nat} {n:Int} (h:Lim D k) (hn:n<=1000000000):Lim (fuseM D n) k:=by
 unfold fuseM
 split
 ·exact h
 ·exact ⟨⟨h.ok.at_,by dsimp only; split <;> omega,h.ok.safe,h.ok.waits,h.ok.writes,h.ok.bytesS,h.ok.bytesW⟩,h.waits,h.writes⟩
theorem quq {w:World} {db:Nat} {F:List Nat} {D:DiskM} {n:Int} {K:Unit->World->Prop} (h:DiskAt w db F D) (hk:∀ w',DiskAt w' db F (fuseM D n)->Fr [db] w w'->K () w') :
  call Tryz.prog 17 [.pointer (some ⟨db,0,none⟩),.int .i64 n] [] w K:=by
 refine qkw (d:=some ⟨db,0,none⟩) ?_
 unfold qgx
 obtain ⟨sb,wsl,hc⟩:=h.cell
 have ho:Own [db] w w [(db,.cells (dCells D sb wsl) DT (0,0))]:=⟨by simpa using hc,by simp,.refl _ _,by simp⟩
 refine qac (Own.ld (c:=.bool) ho 0 rfl D.down rfl ?_)
 refine qaa (fun hd=>?_) (fun hd=>?_)
 ·have hd:¬ D.down=true:=by simpa using hd
  refine qac ?_
  have e:(if -1>n then -1 else n)=(if n<0 then -1 else n):=by
   by_cases h1:n<0
   ·rw [if_pos h1]; split <;> omega
   ·rw [if_neg h1,if_neg (by omega)]
  rw [e]
  refine Own.st' ho 0 rfl (dCells (fuseM D n) sb wsl) (by rw [fuseM,if_neg hd]; rfl) rfl (Nat.le_of_ble_eq_true rfl) fun w1 ho1 f1=>?_
  exact hk w1 (h.turn hc f1 (by rw [fuseM,if_neg hd]) (by rw [fuseM,if_neg hd]) (ho1.at (i:=0) rfl)) f1
 ·have hd:D.down=true:=by simpa using hd
  exact hk w (by rw [fuseM,if_pos hd]; exact h) (.refl _ _)
theorem qqj {A E Z part:List Value} {f:Nat} (h:f+part.length<=E.length):splice (A++E++Z).toArray (A.length+f) part=(A++(E.take f++part++E.drop (f+part.length))++Z).toArray:=by
 apply Array.ext'
 rw [qav _ _ _ (by simp only [List.size_toArray,List.length_append]; omega)]
 show (A++E++Z).take (A.length+f)++part++(A++E++Z).drop (A.length+f+part.length)=A++(E.take f++part++E.drop (f+part.length))++Z
 have e1:(A++E++Z).take (A.length+f)=A++E.take f:=by
  rw [List.append_assoc,List.take_length_add_append,List.take_append_of_le_length (by omega)]
 have e2:(A++E++Z).drop (A.length+f+part.length)=E.drop (f+part.length)++Z:=by
  rw [List.append_assoc,Nat.add_assoc,List.drop_length_add_append,List.drop_append_of_le_length (by omega)]
 rw [e1,e2]
 simp only [List.append_assoc]
theorem qo0 {l:List Blk} {i f t:Nat} {new:Blk} {Z:List Value} (hi:i<l.length) (hf:f<t) (ht:t<=512) :
  splice (l.flatMap encK++Z).toArray (i*512+f) ((((new.1.drop f).take (t-f))).map (Value.int .u8))=((l.set i (overlayB l[i] new f t)).flatMap encK++Z).toArray:=by
 have hsplit:l=l.take i++l[i]::l.drop (i+1):=by rw [<- List.drop_eq_getElem_cons hi,List.take_append_drop]
 have hset:l.set i (overlayB l[i] new f t)=l.take i++overlayB l[i] new f t::l.drop (i+1):=by rw [List.set_eq_take_append_cons_drop,if_pos hi]
 have hlen:((l.take i).flatMap encK).length=i*512:=by rw [qaT qaS,List.length_take,Nat.min_eq_left (by omega)]
 have e1:l.flatMap encK++Z=(l.take i).flatMap encK++encK l[i]++((l.drop (i+1)).flatMap encK++Z):=by
  conv=>lhs; rw [hsplit]
  rw [List.flatMap_append,List.flatMap_cons]
  simp only [List.append_assoc]
 have e2:(l.set i (overlayB l[i] new f t)).flatMap encK++Z=(l.take i).flatMap encK++encK (overlayB l[i] new f t)++((l.drop (i+1)).flatMap encK++Z):=by
  rw [hset,List.flatMap_append,List.flatMap_cons]
  simp only [List.append_assoc]
 have h1:=l[i].2
 have h2:=new.2
 have hpl:((((new.1.drop f).take (t-f))).map (Value.int .u8)).length=t-f:=by rw [List.length_map,List.length_take,List.length_drop]; omega
 rw [e1,e2,<- hlen,qqj (by rw [qaS,hpl]; omega),hpl]
 refine congrArg List.toArray ?_
 congr 2
 have ho:(overlayB l[i] new f t).1=l[i].1.take f++(new.1.drop f).take (t-f)++l[i].1.drop t:=by rw [overlayB,dif_pos ⟨hf,ht⟩]
 rw [encK,encK,ho,List.map_append,List.map_append,List.map_take,List.map_take,List.map_drop,List.map_drop,show f+(t-f)=t by omega]
theorem qjg {old new:Blk} {f t:Nat} (h:¬ f<t):overlayB old new f t=old:=dif_neg (fun h'=>h h'.1)
def encLoss (x:Int×Int):List Value:=[.int .i64 x.1,.int .i64 x.2]
theorem qqS {b o n f t:Nat} {K:Sl->Prop} (hf:f<t) (ht:t<=n) (k:K ⟨some ⟨b,o+f,none⟩,t-f,n-f⟩):slcP ⟨b,o,none⟩ n (some (f:Int)) (some (t:Int)) none 1 K:=by
 unfold slcP
 refine ⟨by simp; omega,?_⟩
 simp only [Option.getD_none,Option.getD_some,Int.toNat_natCast]
 rw [if_neg (by omega),Addr.add_mk,Nat.mul_one]
 exact k
theorem qrA {w:World} {db c:Nat} {F:List Nat} {D:DiskM} {Z:List Value} {sl:Sl} {ls:List (Int×Int)} {K:Unit->World->Prop} (h:DiskZ w db F D c Z) (hD:D.Ok) (hl:Rds encLoss 2 F w sl ls)
  (hk:∀ F' w',DiskZ w' db F' (crashM D ls) c Z->Fr F w w'->(∀ b∈F',b∈F)->K () w') :
  call Tryz.prog 22 [.pointer (some ⟨db,0,none⟩),.slice sl.a sl.len sl.cap] [] w K:=by
 refine qjI (d:=some ⟨db,0,none⟩) (l:=sl) ?_
 unfold qfx
 obtain ⟨sb,T,wsl,B,hF,hn,hc,hsb,hbuf⟩:=h
 have hne:sb≠db:=fun e=>by rw [e] at hn; simp at hn
 have hB:∀ b∈B,b∉[sb]:=fun b hb he=>by simp at he; subst he; simp at hn; exact hn.2.1 hb
 have hwl:=hbuf.len
 have hwmax:=hD.waits
 have hsmax:=hD.safe
 have hll:=hl.1
 have hzl:=fun (k:Nat)=>qdc ((D.waits.zip ls).take k) D.safe
 refine qaf (fun _ w'=>w'.heap[sb]?=some (.cells (((D.waits.zip ls).foldl crashStep D.safe).flatMap encK++Z).toArray T (0,0))/\Fr [sb] w w') ?_ ?_
 ·refine qac (qae (c:=.slice) hc wsl rfl ?_)
  refine qag (fun x w'=>∃ i:Nat,x=i/\i<=D.waits.length/\i<=ls.length/\w'.heap[sb]?=some (.cells ((((D.waits.zip ls).take i).foldl crashStep D.safe).flatMap encK++Z).toArray T (0,0))/\Fr [sb] w w') (fun x _=>((D.waits.length:Int)-x).toNat)
   ⟨0,rfl,by omega,by omega,hsb,.refl _ _⟩ ?_
  rintro x w2 ⟨i,rfl,hi,hi2,hs2,f2⟩ X hX
  have hc2:w2.heap[db]?=some (.cells (dCellsC D sb c wsl) DT (0,0)):=by rw [f2.block db (qab hc) (by simpa using fun e=>hne e.symm)]; exact hc
  refine qaa (fun hcnd=>?_) (fun hcnd=>?_)
  ·have hil:i<D.waits.length:=by have:=of_decide_eq_true hcnd; omega
   have hr2:Rds encW 513 [] w2 wsl D.waits:=(hbuf.frame f2 hB).rds qbf (by simp)
   have hget:=List.getElem?_eq_getElem hil
   have hat:=hD.at_ D.waits[i] (List.getElem_mem hil)
   refine qsJ ?_
   refine hr2.getV qbf i rfl hget ?_
   refine Own.newFill (Own.start [] w2) (by kernel_rfl) (qbf _) (qhC _) fun r w3 er ho=>?_
   have hs3:w3.heap[sb]?=some (.cells ((((D.waits.zip ls).take i).foldl crashStep D.safe).flatMap encK++Z).toArray T (0,0)):=by rw [ho.fr.block sb (qab hs2) (by simp)]; exact hs2
   have hc3:w3.heap[db]?=some (.cells (dCellsC D sb c wsl) DT (0,0)):=by rw [ho.fr.block db (qab hc2) (by simp)]; exact hc2
   have f03:Fr [sb] w w3:=f2.trans (ho.fr.mono fun b hb=>by cases hb)
   refine qaa (fun hce=>?_) (fun hce=>?_)
   ·have hge:ls.length<=i:=by have:=of_decide_eq_true hce; omega
    refine ⟨?_,f03⟩
    have:(D.waits.zip ls).take i=D.waits.zip ls:=List.take_of_length_le (by rw [List.length_zip]; omega)
    rw [this] at hs3
    exact hs3
   have hils:i<ls.length:=by have:=of_decide_eq_false hce; omega
   have hl3:Rds encLoss 2 [] w3 sl ls:=(hl.frame (f03.mono fun b hb _=>by simp at hb; subst hb; rw [hF]; simp) (fun b hb=>.inl hb)).weak (fun b hb=>by cases hb)
   obtain ⟨hn2,bb,oo,ha,_,lcs,lT,lfr,hbk,hcs⟩:=hl3.at i (List.getElem?_eq_getElem hils)
   have c0:lcs[oo+i*2]?=some (.int .i64 ls[i].1):=by
    have:=congrArg (·[0]?) hcs
    simpa [encLoss] using this
   have c1:lcs[oo+i*2+1]?=some (.int .i64 ls[i].2):=by
    have:=congrArg (·[1]?) hcs
    simpa [encLoss] using this
   refine qaX ha ⟨by omega,by omega⟩ ?_
   rw [Int.toNat_natCast]
   refine qae (c:=.int .i64) hbk ls[i].1 c0 ?_
   refine qaX ha ⟨by omega,by omega⟩ ?_
   rw [Int.toNat_natCast]
   refine qae (c:=.int .i64) hbk ls[i].2 c1 ?_
   simp only [qu4]
   have hzi:i<(D.waits.zip ls).length:=by rw [List.length_zip]; omega
   have hstep:((D.waits.zip ls).take (i+1)).foldl crashStep D.safe=crashStep (((D.waits.zip ls).take i).foldl crashStep D.safe) (D.waits[i],ls[i]):=by
    rw [List.take_succ_eq_append_getElem hzi,List.foldl_append,List.getElem_zip]
    rfl
   have hlenF:=hzl i
   generalize hSS:((D.waits.zip ls).take i).foldl crashStep D.safe=SS at hs3 hstep hlenF
   have hpl:D.waits[i].1.toNat<SS.length:=by omega
   have hgd:SS.getD D.waits[i].1.toNat .zero=SS[D.waits[i].1.toNat]:=by rw [List.getD_eq_getElem?_getD,List.getElem?_eq_getElem hpl]; rfl
   have hbf:=qmO ls[i].1
   have hbt:=qmO ls[i].2
   have next:∀ {w5:World},w5.heap[sb]?=some (.cells ((crashStep SS (D.waits[i],ls[i])).flatMap encK++Z).toArray T (0,0))->Fr [sb] w w5->X (IntKind.wrap .i64 ((i:Int)+1)) w5:=fun h5 f5=>by
    rw [wi' _ (by omega)]
    exact hX _ _ ⟨i+1,by simp,by omega,by omega,by rw [hstep]; exact h5,f5⟩ (by omega)
   refine qaa (fun hlt=>?_) (fun hlt=>?_)
   ·have hlt':bnd ls[i].1<bnd ls[i].2:=by have:=of_decide_eq_true hlt; omega
    refine qac (qae (c:=.slice) (w:=w3.drew) hc3 ⟨some ⟨sb,0,none⟩,D.safe.length,c⟩ rfl ?_)
    have hr3:=ho.at (i:=0) rfl
    refine qae (c:=.int .i64) (w:=w3.drew) hr3 D.waits[i].1 rfl ?_
    refine qcH (by omega) (by omega) ?_
    refine qqS hlt' hbt ?_
    refine qqS hlt' hbt ?_
    have hod:Own [sb] w w3.drew [(sb,.cells (SS.flatMap encK++Z).toArray T (0,0))]:=⟨by simpa using (show w3.drew.heap[sb]?=_ from hs3),by simp,f03.drew,by simp⟩
    have hW:=D.waits[i].2.2
    have hvl:(((D.waits[i].2.1.drop (bnd ls[i].1)).take (bnd ls[i].2-bnd ls[i].1)).map (Value.int .u8)).length=bnd ls[i].2-bnd ls[i].1:=by rw [List.length_map,List.length_take,List.length_drop]; omega
    refine Own.copy1 (el:=5) (src:=⟨some ⟨r,1+bnd ls[i].1,none⟩,bnd ls[i].2-bnd ls[i].1,512-bnd ls[i].1⟩) (vs:=((D.waits[i].2.1.drop (bnd ls[i].1)).take (bnd ls[i].2-bnd ls[i].1)).map (Value.int .u8)) hod 0 rfl (by kernel_rfl) (by kernel_rfl) (by rw [hvl]; exact (Nat.min_self _).symm) (fun _=>⟨_,rfl,fun j v hj=>?_⟩) (fun v hv=>?_) (by rw [hvl,List.size_toArray,List.length_append,qaT qaS]; omega) fun w4 ho4=>?_
    ·rw [Addr.add_mk,qaj (w:=w3.drew) hr3]
     rw [List.getElem?_map,List.getElem?_take] at hj
     split at hj
     ·rw [List.getElem?_drop] at hj
      rw [List.getElem?_toArray]
      show (Value.int .i64 D.waits[i].1::encK D.waits[i].2)[1+bnd ls[i].1+j]?=some v
      rw [show 1+bnd ls[i].1+j=(bnd ls[i].1+j)+1 by omega,List.getElem?_cons_succ,encK,List.getElem?_map]
      exact hj
     ·cases hj
    ·obtain ⟨x,_,rfl⟩:=List.mem_map.1 hv
     rfl
    ·refine next ?_ ho4.fr
     have hsp:=qo0 (l:=SS) (new:=D.waits[i].2) (Z:=Z) hpl hlt' hbt
     have:=ho4.at (i:=0) rfl
     rw [Nat.zero_add,hsp] at this
     rw [crashStep,hgd]
     exact this
   ·have hlt':¬ bnd ls[i].1<bnd ls[i].2:=by have:=of_decide_eq_false hlt; omega
    refine next ?_ f03
    rw [crashStep,hgd,qjg hlt']
    have:SS.set D.waits[i].1.toNat SS[D.waits[i].1.toNat]=SS:=List.set_getElem_self hpl
    show w3.heap[sb]?=some (.cells ((SS.set D.waits[i].1.toNat SS[D.waits[i].1.toNat]).flatMap encK++Z).toArray T (0,0))
    rw [this]
    exact hs3
  ·have hie:i=D.waits.length:=by have:=of_decide_eq_false hcnd; omega
   refine ⟨?_,f2⟩
   have:(D.waits.zip ls).take i=D.waits.zip ls:=List.take_of_length_le (by rw [List.length_zip]; omega)
   rw [this] at hs2
   exact hs2
 rintro _ w2 ⟨hs2,f2⟩
 have hc2:w2.heap[db]?=some (.cells (dCellsC D sb c wsl) DT (0,0)):=by rw [f2.block db (qab hc) (by simpa using fun e=>hne e.symm)]; exact hc
 have ho2:Own [db] w2 w2 [(db,.cells (dCellsC D sb c wsl) DT (0,0))]:=⟨by simpa using hc2,by simp,.refl _ _,by simp⟩
 refine qac ?_
 refine Own.st' ho2 0 rfl (dCellsC { D with waits:=[] } sb c ⟨none,0,0⟩) rfl rfl (Nat.le_of_ble_eq_true rfl) fun w3 ho3 f3=>?_
 refine qac ?_
 refine Own.st' ho3 0 rfl (dCellsC { D with waits:=[],down:=false } sb c ⟨none,0,0⟩) rfl rfl (Nat.le_of_ble_eq_true rfl) fun w4 ho4 f4=>?_
 refine qac ?_
 have hlc:=qdc (D.waits.zip ls) D.safe
 refine Own.st' ho4 0 rfl (dCellsC (crashM D ls) sb c ⟨none,0,0⟩) (by simp [splice,dCellsC,crashM,hlc]) rfl (Nat.le_of_ble_eq_true rfl) fun w5 ho5 f5=>?_
 have f25:=(f3.trans f4).trans f5
 refine hk [db,sb] w5 ⟨sb,T,⟨none,0,0⟩,[],rfl,by simpa using fun e=>hne e.symm,ho5.at (i:=0) rfl,?_,.nil _ _ _⟩ ((f2.mono fun b hb _=>by simp at hb; subst hb; rw [hF]; simp).trans (f25.mono fun b hb _=>by simp at hb; subst hb; rw [hF]; simp)) (fun b hb=>by rw [hF]; simp at hb; rcases hb with rfl | rfl <;> simp)
 rw [f25.block sb (qab hs2) (by simpa using hne)]
 exact hs2
theorem qtd {w:World} {db:Nat} {F:List Nat} {D:DiskM} {sl:Sl} {ls:List (Int×Int)} {K:Unit->World->Prop} (h:DiskAt w db F D) (hD:D.Ok) (hl:Rds encLoss 2 F w sl ls)
  (hk:∀ F' w',DiskAt w' db F' (crashM D ls)->Fr F w w'->(∀ b∈F',b∈F)->K () w') :
  call Tryz.prog 22 [.pointer (some ⟨db,0,none⟩),.slice sl.a sl.len sl.cap] [] w K:=
 qrA h.z hD hl fun F' w' h'=>hk F' w' (by
  have e:D.safe.length=(crashM D ls).safe.length:=(qdc _ _).symm
  rw [e] at h'
  exact h'.at)
end Go.Proofs.YtmbcedengdoamaaGreatDoor
end
section
set_option linter.unusedVariables false
set_option maxRecDepth 100000
namespace Go.Proofs.YtmbcedengdoamaaGreatDoor
open Go Go.Pt
@[reducible] def qbo:List Cell:=[Cell.int IntKind.u8,Cell.int IntKind.u32,Cell.int IntKind.u8,Cell.slice,Cell.int IntKind.u16,Cell.slice]
@[reducible] def qjq:List Cell:=[Cell.int IntKind.u32,Cell.int IntKind.u32,Cell.int IntKind.u32]
def qcp (b:Option Addr) (o0:Int) (o1:Int) (o2:Int) (o3:Sl) (o4:Int) (o5:Sl) (K:Bool->World->Prop) (w:World):Prop:=new (Obj.cells #[.int .u8 o0,.int .u32 o1,.int .u8 o2,.slice o3.a o3.len o3.cap,.int .u16 o4,.slice o5.a o5.len o5.cap] 52) w fun c d=>ld (.int .u8) ⟨c,0,none⟩ d fun (e:Int)=>cond (Int.tmod e 12==0) (nn b fun f=>ld .ptr ⟨f.block,f.off+1,none⟩ (World.drew d) fun g=>ld (.int .u8) ⟨c,2,none⟩ (World.drew d) fun (h:Int)=>ldA (qbo) ⟨c,0,none⟩ (World.drew d) fun (i:Int×Int×Int×Sl×Int×Sl)=>call Tryz.prog 47 ([.agg (List.toArray (HL.mk qbo i))]) ([.one .slice]) (World.drew d) fun j k=>held [fun l=>World.cell? l ⟨c,2,none⟩=some (.int .u8 h),fun m=>World.cell? m ⟨f.block,f.off+1,none⟩=some (.pointer g)] k<|call Tryz.prog 10 ([.pointer g,.int .u8 h,.slice j.a j.len j.cap]) ([.one (.int .u32),.one (.int .i64)]) k fun (n:Int×Int) o=>(nn b fun p=>ldV 64 ⟨p.block,p.off+2,none⟩ (World.drew o) fun q=>ld (.int .u8) ⟨c,2,none⟩ (World.drew o) fun (r:Int)=>ldA (qbo) ⟨c,0,none⟩ (World.drew o) fun (s:Int×Int×Int×Sl×Int×Sl)=>call Tryz.prog 47 ([.agg (List.toArray (HL.mk qbo s))]) ([.one .slice]) (World.drew o) fun t u=>held [fun v=>World.cell? v ⟨c,2,none⟩=some (.int .u8 r),fun x=>cellsAt x ⟨p.block,p.off+2,none⟩ 0 q] u<|runQ [.one .str] (fun y=>(convert 22 9 (.slice t.a t.len t.cap)).run Tryz.prog y) u fun (z:ByteArray)=>call Tryz.prog 48 ([.agg (List.toArray q),.int .u8 r,.string z]) ([.raw,.one (.int .u32),.one (.int .i64)]) u fun (A:List Value×Int×Int) B=>newZ Tryz.prog 63 B fun C D=>held [fun E=>(convert 22 9 (.slice t.a t.len t.cap)).run Tryz.prog E=Result.ok (.string z) E,fun F=>cellsAt F ⟨c,0,none⟩ 0 (HL.mk qbo s),fun G=>World.cell? G ⟨c,2,none⟩=some (.int .u8 r),fun H=>cellsAt H ⟨p.block,p.off+2,none⟩ 0 q] D<|chk (List.length A.fst=64)<|st ⟨C,0,none⟩ A.fst D fun I=>ldV 64 ⟨C,0,none⟩ I fun J=>nn b fun L=>chk (List.length J=64)<|st ⟨L.block,L.off+2,none⟩ J I fun M=>cond (n.fst==A.snd.fst) (K (n.snd==A.snd.snd) M) (K false M))/\((nn b fun N=>ldV 64 ⟨N.block,N.off+2,none⟩ (World.drew o) fun O=>ld (.int .u8) ⟨c,2,none⟩ (World.drew o) fun (P:Int)=>ldA (qbo) ⟨c,0,none⟩ (World.drew o) fun (Q:Int×Int×Int×Sl×Int×Sl)=>call Tryz.prog 47 ([.agg (List.toArray (HL.mk qbo Q))]) ([.one .slice]) (World.drew o) fun R S=>held [fun T=>World.cell? T ⟨c,2,none⟩=some (.int .u8 P),fun U=>cellsAt U ⟨N.block,N.off+2,none⟩ 0 O] S<|runQ [.one .str] (fun V=>(convert 22 9 (.slice R.a R.len R.cap)).run Tryz.prog V) S fun (W:ByteArray)=>newZ Tryz.prog 63 S fun X Y=>held [fun Z=>(convert 22 9 (.slice R.a R.len R.cap)).run Tryz.prog Z=Result.ok (.string W) Z,fun aa=>cellsAt aa ⟨c,0,none⟩ 0 (HL.mk qbo Q),fun ab=>World.cell? ab ⟨c,2,none⟩=some (.int .u8 P),fun ac=>cellsAt ac ⟨N.block,N.off+2,none⟩ 0 O] Y<|call Tryz.prog 48 ([.agg (List.toArray O),.int .u8 P,.string W]) ([.raw,.one (.int .u32),.one (.int .i64)]) Y fun (ad:List Value×Int×Int) ae=>chk (List.length ad.fst=64)<|st ⟨X,0,none⟩ ad.fst ae fun af=>ldV 64 ⟨X,0,none⟩ af fun ag=>nn b fun ah=>chk (List.length ag=64)<|st ⟨ah.block,ah.off+2,none⟩ ag af fun ai=>cond (n.fst==ad.snd.fst) (K (n.snd==ad.snd.snd) ai) (K false ai))/\(nn b fun aj=>ldV 64 ⟨aj.block,aj.off+2,none⟩ (World.drew o) fun ak=>ld (.int .u8) ⟨c,2,none⟩ (World.drew o) fun (al:Int)=>ldA (qbo) ⟨c,0,none⟩ (World.drew o) fun (am:Int×Int×Int×Sl×Int×Sl)=>newZ Tryz.prog 63 (World.drew o) fun an ao=>held [fun ap=>cellsAt ap ⟨c,0,none⟩ 0 (HL.mk qbo am),fun aq=>World.cell? aq ⟨c,2,none⟩=some (.int .u8 al),fun ar=>cellsAt ar ⟨aj.block,aj.off+2,none⟩ 0 ak] ao<|call Tryz.prog 47 ([.agg (List.toArray (HL.mk qbo am))]) ([.one .slice]) ao fun au av=>held [fun aw=>World.cell? aw ⟨c,2,none⟩=some (.int .u8 al),fun ax=>cellsAt ax ⟨aj.block,aj.off+2,none⟩ 0 ak] av<|runQ [.one .str] (fun ay=>(convert 22 9 (.slice au.a au.len au.cap)).run Tryz.prog ay) av fun (az:ByteArray)=>call Tryz.prog 48 ([.agg (List.toArray ak),.int .u8 al,.string az]) ([.raw,.one (.int .u32),.one (.int .i64)]) av fun (aA:List Value×Int×Int) aB=>chk (List.length aA.fst=64)<|st ⟨an,0,none⟩ aA.fst aB fun aC=>ldV 64 ⟨an,0,none⟩ aC fun aD=>nn b fun aE=>chk (List.length aD=64)<|st ⟨aE.block,aE.off+2,none⟩ aD aC fun aF=>cond (n.fst==aA.snd.fst) (K (n.snd==aA.snd.snd) aF) (K false aF)))) (cond (Int.tmod e 12==1) (nn b fun aG=>ld .ptr ⟨aG.block,aG.off+1,none⟩ (World.drew d) fun aH=>ld (.int .u32) ⟨c,1,none⟩ (World.drew d) fun (aI:Int)=>ld (.int .u8) ⟨c,2,none⟩ (World.drew d) fun (aJ:Int)=>ldA (qbo) ⟨c,0,none⟩ (World.drew d) fun (aL:Int×Int×Int×Sl×Int×Sl)=>call Tryz.prog 47 ([.agg (List.toArray (HL.mk qbo aL))]) ([.one .slice]) (World.drew d) fun aM aN=>held [fun aO=>World.cell? aO ⟨c,2,none⟩=some (.int .u8 aJ),fun aP=>World.cell? aP ⟨c,1,none⟩=some (.int .u32 aI),fun aQ=>World.cell? aQ ⟨aG.block,aG.off+1,none⟩=some (.pointer aH)] aN<|call Tryz.prog 49 ([.pointer aH,.int .u32 aI,.int .u8 aJ,.slice aM.a aM.len aM.cap]) ([.one (.int .i64)]) aN fun (aR:Int) aS=>(nn b fun aT=>ldV 64 ⟨aT.block,aT.off+2,none⟩ (World.drew aS) fun aU=>ld (.int .u32) ⟨c,1,none⟩ (World.drew aS) fun (aV:Int)=>ld (.int .u8) ⟨c,2,none⟩ (World.drew aS) fun (aW:Int)=>ldA (qbo) ⟨c,0,none⟩ (World.drew aS) fun (aX:Int×Int×Int×Sl×Int×Sl)=>call Tryz.prog 47 ([.agg (List.toArray (HL.mk qbo aX))]) ([.one .slice]) (World.drew aS) fun aY aZ=>held [fun ba=>World.cell? ba ⟨c,2,none⟩=some (.int .u8 aW),fun bb=>World.cell? bb ⟨c,1,none⟩=some (.int .u32 aV),fun bc=>cellsAt bc ⟨aT.block,aT.off+2,none⟩ 0 aU] aZ<|runQ [.one .str] (fun bd=>(convert 22 9 (.slice aY.a aY.len aY.cap)).run Tryz.prog bd) aZ fun (be:ByteArray)=>call Tryz.prog 50 ([.agg (List.toArray aU),.int .u32 aV,.int .u8 aW,.string be]) ([.raw,.one (.int .i64)]) aZ fun (bf:List Value×Int) bg=>newZ Tryz.prog 63 bg fun bh bi=>held [fun bj=>(convert 22 9 (.slice aY.a aY.len aY.cap)).run Tryz.prog bj=Result.ok (.string be) bj,fun bk=>cellsAt bk ⟨c,0,none⟩ 0 (HL.mk qbo aX),fun bl=>World.cell? bl ⟨c,2,none⟩=some (.int .u8 aW),fun bm=>World.cell? bm ⟨c,1,none⟩=some (.int .u32 aV),fun bn=>cellsAt bn ⟨aT.block,aT.off+2,none⟩ 0 aU] bi<|chk (List.length bf.fst=64)<|st ⟨bh,0,none⟩ bf.fst bi fun bo=>ldV 64 ⟨bh,0,none⟩ bo fun bp=>nn b fun bq=>chk (List.length bp=64)<|st ⟨bq.block,bq.off+2,none⟩ bp bo fun br=>K (aR==bf.snd) br)/\((nn b fun bs=>ldV 64 ⟨bs.block,bs.off+2,none⟩ (World.drew aS) fun bt=>ld (.int .u32) ⟨c,1,none⟩ (World.drew aS) fun (bu:Int)=>ld (.int .u8) ⟨c,2,none⟩ (World.drew aS) fun (bv:Int)=>ldA (qbo) ⟨c,0,none⟩ (World.drew aS) fun (bw:Int×Int×Int×Sl×Int×Sl)=>call Tryz.prog 47 ([.agg (List.toArray (HL.mk qbo bw))]) ([.one .slice]) (World.drew aS) fun bx bz=>held [fun bA=>World.cell? bA ⟨c,2,none⟩=some (.int .u8 bv),fun bB=>World.cell? bB ⟨c,1,none⟩=some (.int .u32 bu),fun bC=>cellsAt bC ⟨bs.block,bs.off+2,none⟩ 0 bt] bz<|runQ [.one .str] (fun bD=>(convert 22 9 (.slice bx.a bx.len bx.cap)).run Tryz.prog bD) bz fun (bE:ByteArray)=>newZ Tryz.prog 63 bz fun bF bG=>held [fun bH=>(convert 22 9 (.slice bx.a bx.len bx.cap)).run Tryz.prog bH=Result.ok (.string bE) bH,fun bI=>cellsAt bI ⟨c,0,none⟩ 0 (HL.mk qbo bw),fun bJ=>World.cell? bJ ⟨c,2,none⟩=some (.int .u8 bv),fun bL=>World.cell? bL ⟨c,1,none⟩=some (.int .u32 bu),fun bM=>cellsAt bM ⟨bs.block,bs.off+2,none⟩ 0 bt] bG<|call Tryz.prog 50 ([.agg (List.toArray bt),.int .u32 bu,.int .u8 bv,.string bE]) ([.raw,.one (.int .i64)]) bG fun (bN:List Value×Int) bO=>chk (List.length bN.fst=64)<|st ⟨bF,0,none⟩ bN.fst bO fun bP=>ldV 64 ⟨bF,0,none⟩ bP fun bQ=>nn b fun bR=>chk (List.length bQ=64)<|st ⟨bR.block,bR.off+2,none⟩ bQ bP fun bS=>K (aR==bN.snd) bS)/\(nn b fun bT=>ldV 64 ⟨bT.block,bT.off+2,none⟩ (World.drew aS) fun bU=>ld (.int .u32) ⟨c,1,none⟩ (World.drew aS) fun (bV:Int)=>ld (.int .u8) ⟨c,2,none⟩ (World.drew aS) fun (bW:Int)=>ldA (qbo) ⟨c,0,none⟩ (World.drew aS) fun (bX:Int×Int×Int×Sl×Int×Sl)=>newZ Tryz.prog 63 (World.drew aS) fun bY bZ=>held [fun ca=>cellsAt ca ⟨c,0,none⟩ 0 (HL.mk qbo bX),fun cb=>World.cell? cb ⟨c,2,none⟩=some (.int .u8 bW),fun cc=>World.cell? cc ⟨c,1,none⟩=some (.int .u32 bV),fun cd=>cellsAt cd ⟨bT.block,bT.off+2,none⟩ 0 bU] bZ<|call Tryz.prog 47 ([.agg (List.toArray (HL.mk qbo bX))]) ([.one .slice]) bZ fun ce cf=>held [fun cg=>World.cell? cg ⟨c,2,none⟩=some (.int .u8 bW),fun ch=>World.cell? ch ⟨c,1,none⟩=some (.int .u32 bV),fun ci=>cellsAt ci ⟨bT.block,bT.off+2,none⟩ 0 bU] cf<|runQ [.one .str] (fun cj=>(convert 22 9 (.slice ce.a ce.len ce.cap)).run Tryz.prog cj) cf fun (ck:ByteArray)=>call Tryz.prog 50 ([.agg (List.toArray bU),.int .u32 bV,.int .u8 bW,.string ck]) ([.raw,.one (.int .i64)]) cf fun (cl:List Value×Int) cm=>chk (List.length cl.fst=64)<|st ⟨bY,0,none⟩ cl.fst cm fun cn=>ldV 64 ⟨bY,0,none⟩ cn fun co=>nn b fun cp=>chk (List.length co=64)<|st ⟨cp.block,cp.off+2,none⟩ co cn fun cq=>K (aR==cl.snd) cq))) (cond (Int.tmod e 12==2) (nn b fun cr=>ld .ptr ⟨cr.block,cr.off+1,none⟩ (World.drew d) fun cs=>ld (.int .u32) ⟨c,1,none⟩ (World.drew d) fun (ct:Int)=>call Tryz.prog 13 ([.pointer cs,.int .u32 ct]) ([.one (.int .i64)]) (World.drew d) fun (cu:Int) cv=>(nn b fun cw=>ldV 64 ⟨cw.block,cw.off+2,none⟩ (World.drew cv) fun cx=>ld (.int .u32) ⟨c,1,none⟩ (World.drew cv) fun (cy:Int)=>call Tryz.prog 51 ([.agg (List.toArray cx),.int .u32 cy]) ([.raw,.one (.int .i64)]) (World.drew cv) fun (cz:List Value×Int) cA=>newZ Tryz.prog 63 cA fun cB cC=>held [fun cD=>World.cell? cD ⟨c,1,none⟩=some (.int .u32 cy),fun cE=>cellsAt cE ⟨cw.block,cw.off+2,none⟩ 0 cx] cC<|chk (List.length cz.fst=64)<|st ⟨cB,0,none⟩ cz.fst cC fun cF=>ldV 64 ⟨cB,0,none⟩ cF fun cG=>nn b fun cH=>chk (List.length cG=64)<|st ⟨cH.block,cH.off+2,none⟩ cG cF fun cI=>K (cu==cz.snd) cI)/\(nn b fun cJ=>ldV 64 ⟨cJ.block,cJ.off+2,none⟩ (World.drew cv) fun cL=>ld (.int .u32) ⟨c,1,none⟩ (World.drew cv) fun (cM:Int)=>newZ Tryz.prog 63 (World.drew cv) fun cN cO=>held [fun cP=>World.cell? cP ⟨c,1,none⟩=some (.int .u32 cM),fun cQ=>cellsAt cQ ⟨cJ.block,cJ.off+2,none⟩ 0 cL] cO<|call Tryz.prog 51 ([.agg (List.toArray cL),.int .u32 cM]) ([.raw,.one (.int .i64)]) cO fun (cR:List Value×Int) cS=>chk (List.length cR.fst=64)<|st ⟨cN,0,none⟩ cR.fst cS fun cT=>ldV 64 ⟨cN,0,none⟩ cT fun cU=>nn b fun cV=>chk (List.length cU=64)<|st ⟨cV.block,cV.off+2,none⟩ cU cT fun cW=>K (cu==cR.snd) cW)) (cond (Int.tmod e 12==3) (nn b fun cX=>ld .ptr ⟨cX.block,cX.off+1,none⟩ (World.drew d) fun cY=>ld (.int .u32) ⟨c,1,none⟩ (World.drew d) fun (cZ:Int)=>call Tryz.prog 35 ([.pointer cY,.int .u32 cZ]) ([.one (.int .u8),.one .slice,.one (.int .i64)]) (World.drew d) fun (da:Int×Sl×Int) db=>nn b fun dc=>ldV 64 ⟨dc.block,dc.off+2,none⟩ (World.drew db) fun dd=>ld (.int .u32) ⟨c,1,none⟩ (World.drew db) fun (de:Int)=>call Tryz.prog 52 ([.agg (List.toArray dd),.int .u32 de]) ([.one (.int .u8),.one .str,.one (.int .i64)]) (World.drew db) fun (df:Int×ByteArray×Int) dg=>cond (da.fst==df.fst) (runQ [.one .str] (fun dh=>(convert 22 9 (.slice da.snd.fst.a da.snd.fst.len da.snd.fst.cap)).run Tryz.prog dh) dg fun (di:ByteArray)=>cond (ByteArray.toList di==ByteArray.toList df.snd.fst) (K (da.snd.snd==df.snd.snd) dg) (K false dg)) (K false dg)) (ld (.int .u32) ⟨c,1,none⟩ d fun (dj:Int)=>ld (.int .u8) ⟨c,2,none⟩ d fun (dk:Int)=>ld (.int .u16) ⟨c,4,none⟩ d fun (dl:Int)=>new (Obj.cells #[.int .u32 0,.int .u32 0,.int .u32 0] 42) d fun dm dn=>st ⟨dm,0,none⟩ ([.int .u32 dj,.int .u32 (IntKind.wrap .u32 dk),.int .u32 (IntKind.wrap .u32 dl)]) dn fun dp=>nn b fun dq=>ld .ptr ⟨dq.block,dq.off+1,none⟩ (World.drew dp) fun dr=>ld (.int .u32) ⟨c,1,none⟩ (World.drew dp) fun (ds:Int)=>ldA (qjq) ⟨dm,0,none⟩ (World.drew dp) fun (dt:Int×Int×Int)=>call Tryz.prog 53 ([.pointer dr,.int .i64 (IntKind.wrap .i64 (IntKind.wrap .i32 ds)),.agg (List.toArray (HL.mk qjq dt))]) ([.one (.int .i64)]) (World.drew dp) fun (du:Int) dv=>(nn b fun dw=>ldV 64 ⟨dw.block,dw.off+2,none⟩ (World.drew dv) fun dx=>ld (.int .u32) ⟨c,1,none⟩ (World.drew dv) fun (dy:Int)=>ldA (qjq) ⟨dm,0,none⟩ (World.drew dv) fun (dz:Int×Int×Int)=>call Tryz.prog 54 ([.agg (List.toArray dx),.int .i64 (IntKind.wrap .i64 (IntKind.wrap .i32 dy)),.agg (List.toArray (HL.mk qjq dz))]) ([.raw,.one (.int .i64)]) (World.drew dv) fun (dA:List Value×Int) dB=>newZ Tryz.prog 63 dB fun dC dD=>held [fun dE=>cellsAt dE ⟨dm,0,none⟩ 0 (HL.mk qjq dz),fun dF=>World.cell? dF ⟨c,1,none⟩=some (.int .u32 dy),fun dG=>cellsAt dG ⟨dw.block,dw.off+2,none⟩ 0 dx] dD<|chk (List.length dA.fst=64)<|st ⟨dC,0,none⟩ dA.fst dD fun dH=>ldV 64 ⟨dC,0,none⟩ dH fun dI=>nn b fun dJ=>chk (List.length dI=64)<|st ⟨dJ.block,dJ.off+2,none⟩ dI dH fun dL=>K (du==dA.snd) dL)/\(nn b fun dM=>ldV 64 ⟨dM.block,dM.off+2,none⟩ (World.drew dv) fun dN=>ld (.int .u32) ⟨c,1,none⟩ (World.drew dv) fun (dO:Int)=>ldA (qjq) ⟨dm,0,none⟩ (World.drew dv) fun (dP:Int×Int×Int)=>newZ Tryz.prog 63 (World.drew dv) fun dQ dR=>held [fun dS=>cellsAt dS ⟨dm,0,none⟩ 0 (HL.mk qjq dP),fun dT=>World.cell? dT ⟨c,1,none⟩=some (.int .u32 dO),fun dU=>cellsAt dU ⟨dM.block,dM.off+2,none⟩ 0 dN] dR<|call Tryz.prog 54 ([.agg (List.toArray dN),.int .i64 (IntKind.wrap .i64 (IntKind.wrap .i32 dO)),.agg (List.toArray (HL.mk qjq dP))]) ([.raw,.one (.int .i64)]) dR fun (dV:List Value×Int) dW=>chk (List.length dV.fst=64)<|st ⟨dQ,0,none⟩ dV.fst dW fun dX=>ldV 64 ⟨dQ,0,none⟩ dX fun dY=>nn b fun dZ=>chk (List.length dY=64)<|st ⟨dZ.block,dZ.off+2,none⟩ dY dX fun ea=>K (du==dV.snd) ea)))))
def qfC:List Ann:=[.n,.n,.n,.n,.n,.o [[0,1,2,3,4,5,6,7,8,9,10,11,12,13]],.n,.o [[0,1,2,3,4,5,6,7,8,9,10,11,12,13,14,15,16,17],[0,1,2,3,4,5,6,7,8,14,9,10,11,12,13,15,16,17],[0,1,2,3,4,5,6,14,7,8,9,10,11,12,13,15,16,17]],.n,.n,.n,.n,.o [[0,1,2,3,4,5,6,7,8,9,10,11]],.n,.o [[0,1,2,3,4,5,6,7,8,9,10,11,12,13,14,15,16,17],[0,1,2,3,4,5,6,7,8,9,10,15,11,12,13,14,16,17],[0,1,2,3,4,5,6,7,8,15,9,10,11,12,13,14,16,17]],.n,.n,.n,.n,.o [[0,1,2,3,4,5,6,7]],.n,.o [[0,1,2,3,4,5,6,7,8,9,10,11,12],[0,1,2,3,4,5,10,6,7,8,9,11,12]],.n,.n,.n,.n,.o [[0,1,2,3,4,5,6,7,8,9,10,11,12,13]],.n,.o [[0,1,2,3,4,5,6,7,8,9,10,11,12,13]],.n,.n,.n,.o [[0,1,2,3,4,5,6,7,8,9,10]],.n,.o [[0,1,2,3,4,5,6,7,8,9,10,11,12,13,14,15],[0,1,2,3,4,5,6,7,8,13,9,10,11,12,14,15]],.n,.n]
theorem qeF {b o0 o1 o2 o3 o4 o5 w K} (hF:qcp b o0 o1 o2 o3 o4 o5 K w):call Tryz.prog 18 [.pointer b,.agg #[.int .u8 o0,.int .u32 o1,.int .u8 o2,.slice o3.a o3.len o3.cap,.int .u16 o4,.slice o5.a o5.len o5.cap]] [.one .bool] w K:=qad (an:=qfC) Tryz.func18 hF
@[reducible] def qm7:List Cell:=[Cell.int IntKind.u8,Cell.int IntKind.u32,Cell.int IntKind.u8,Cell.slice,Cell.int IntKind.u16,Cell.slice]
@[reducible] def qb8:List Cell:=[Cell.slice,Cell.slice,Cell.int IntKind.i64,Cell.bool,Cell.int IntKind.i64]
def qcf (blocks:Int) (ops:Sl) (K:Bool->World->Prop) (w:World):Prop:=cond (decide ((↑ops.len:Int)>60)) (call Tryz.prog 12 [] ([.one .bool]) w fun (b:Bool) c=>K b c) (call Tryz.prog 26 ([.int .i64 (IntKind.wrap .i64 (8+IntKind.wrap .i64 (Int.tmod blocks 33)))]) ([.raw,.one .bool]) w fun (d:List Value×Bool) e=>newZ Tryz.prog 66 e fun f g=>chk (List.length d.fst=95)<|st ⟨f,0,none⟩ d.fst g fun h=>cond (!d.snd) (K false h) (newZ Tryz.prog 87 h fun i j=>loop (Int) (fun k (l:Int) m=>cond (decide (l<(↑ops.len:Int))) (join (PUnit) (fun n=>idx ops l 6 fun o=>ldA (qm7) o m fun (p:Int×Int×Int×Sl×Int×Sl)=>new (Obj.cells #[.int .u8 0,.int .u32 0,.int .u8 0,.slice none 0 0,.int .u16 0,.slice none 0 0] 52) m fun q r=>st ⟨q,0,none⟩ (HL.mk qm7 p) r fun s=>join (Bool) (fun t=>ld .slice ⟨q,3,none⟩ s fun u=>cond (decide ((↑u.len:Int)>600)) (t true s) (ld (.int .u8) ⟨q,0,none⟩ s fun (v:Int)=>t (decide (Int.tmod v 12>8)) s)) fun (x:Bool) y=>cond x (n () y) (ldA (qm7) ⟨q,0,none⟩ y fun (z:Int×Int×Int×Sl×Int×Sl)=>call Tryz.prog 27 ([.pointer (some ⟨f,0,none⟩),.agg (List.toArray (HL.mk qm7 z))]) ([.one .bool]) y fun (A:Bool) B=>n () B)) fun (C:PUnit) D=>k (IntKind.wrap .i64 (l+1)) D) (ld .ptr ⟨f,1,none⟩ (World.drew m) fun E=>ld .ptr ⟨f,1,none⟩ (World.drew m) fun F=>ld .ptr ⟨f,1,none⟩ (World.drew m) fun G=>ld .ptr ⟨f,1,none⟩ (World.drew m) fun H=>call Tryz.prog 9 ([.pointer E]) ([.one .slice]) (World.drew m) fun I J=>held [fun L=>World.cell? L ⟨f,1,none⟩=some (.pointer H),fun M=>World.cell? M ⟨f,1,none⟩=some (.pointer G),fun N=>World.cell? N ⟨f,1,none⟩=some (.pointer F)] J<|call Tryz.prog 33 ([.pointer F]) ([.one .slice]) J fun O P=>held [fun Q=>World.cell? Q ⟨f,1,none⟩=some (.pointer H),fun R=>World.cell? R ⟨f,1,none⟩=some (.pointer G)] P<|call Tryz.prog 34 ([.pointer G]) ([.one .slice]) P fun S T=>held [fun U=>World.cell? U ⟨f,1,none⟩=some (.pointer H)] T<|call Tryz.prog 32 ([.pointer H]) ([.one .slice]) T fun V W=>new (Obj.cells #[.slice I.a I.len I.cap,.slice O.a O.len O.cap,.slice S.a S.len S.cap,.slice V.a V.len V.cap] 27) W fun X Y=>loop (Int) (fun Z (aa:Int) ab=>cond (decide (aa<(↑4:Int))) (idx ({ a:=some ⟨X,0,none⟩,len:=4,cap:=4 }) aa 1 fun ac=>ld .slice ac ab fun ad=>loop (Int) (fun ae (af:Int) ag=>cond (decide (af<(↑ad.len:Int))) (idx ad af 1 fun ah=>ld (.int .u32) ah ag fun (ai:Int)=>join (Bool) (fun aj=>cond (decide (ai<2)) (aj true ag) (cond (decide (IntKind.wrap .i64 ai>=IntKind.wrap .i64 (8+IntKind.wrap .i64 (Int.tmod blocks 33)))) (aj true ag) (chk (0<=ai/\ai<(↑48:Int))<|ld .bool (Addr.add ⟨i,0,none⟩ (Int.toNat ai*1)) ag fun (ak:Bool)=>cond ak (aj true ag) (cond (decide (af>0)) (idx ad (IntKind.wrap .i64 (af-1)) 1 fun al=>ld (.int .u32) al ag fun (am:Int)=>aj (am==ai) ag) (aj false ag))))) fun (an:Bool) ao=>cond an (K false ao) (chk (0<=ai/\ai<(↑48:Int))<|st (Addr.add ⟨i,0,none⟩ (Int.toNat ai*1)) ([.bool true]) ao fun ap=>ae (IntKind.wrap .i64 (af+1)) ap)) (Z (IntKind.wrap .i64 (aa+1)) ag)) 0 ab) (ld .ptr ⟨f,1,none⟩ ab fun aq=>call Tryz.prog 34 ([.pointer aq]) ([.one .slice]) ab fun ar au=>loop (Int) (fun av (aw:Int) ax=>cond (decide (aw<(↑ar.len:Int))) (idx ar aw 1 fun ay=>ld (.int .u32) ay ax fun (az:Int)=>chk (0<=az/\az<(↑48:Int))<|st (Addr.add ⟨i,0,none⟩ (Int.toNat az*1)) ([.bool false]) ax fun aA=>av (IntKind.wrap .i64 (aw+1)) aA) (loop (Int) (fun aB (aC:Int) aD=>cond (decide (aC<IntKind.wrap .i64 (8+IntKind.wrap .i64 (Int.tmod blocks 33)))) (ld .ptr ⟨f,1,none⟩ aD fun aE=>call Tryz.prog 35 ([.pointer aE,.int .u32 (IntKind.wrap .u32 aC)]) ([.one (.int .u8),.one .slice,.one (.int .i64)]) aD fun (aF:Int×Sl×Int) aG=>chk (0<=aC/\aC<(↑48:Int))<|ld .bool (Addr.add ⟨i,0,none⟩ (Int.toNat aC*1)) aG fun (aH:Bool)=>cond ((aF.snd.snd==0)==aH) (K false aG) (aB (IntKind.wrap .i64 (aC+1)) aG)) (call Tryz.prog 12 [] ([.one .bool]) aD fun (aI:Bool) aJ=>K aI aJ)) 2 ax)) 0 au)) 0 Y)) 0 j))
def qfl:List Ann:=[.n,.n,.n,.n,.n,.n,.n,.n,.n,.n,.n,.n,.l [(38,.one (.int .i64))],.n,.n,.j [],.n,.n,.j [(51,.one .bool)],.n,.n,.o [[0,1,3,4,6,7,9,10,14,2,5,8,11,12,13]],.l [(69,.one (.int .i64))],.n,.n,.n,.n,.n,.l [(75,.one (.int .i64))],.n,.n,.n,.n,.n,.j [(105,.one .bool)],.n,.n,.n,.l [(114,.one (.int .i64))],.n,.n,.n,.n,.n,.n,.l [(17,.one (.int .i64))],.n,.n,.n,.n,.n,.n,.n]
theorem qet {blocks ops w K} (hF:qcf blocks ops K w):call Tryz.prog 6 [.int .u8 blocks,.slice ops.a ops.len ops.cap] [.one .bool] w K:=qad (an:=qfl) Tryz.func6 hF
def qdH (blocks:Int) (K:((List Value)×Bool)->World->Prop) (w:World):Prop:=newZ Tryz.prog 66 w fun a b=>call Tryz.prog 8 ([.int .i64 blocks]) ([.one .ptr,.one .ptr]) b fun (c:Option Addr×Option Addr) d=>call Tryz.prog 65 ([.int .i64 blocks]) ([.agg qb8,.one (.int .i64)]) d fun (e:(Sl×Sl×Int×Bool×Int)×Int) f=>new (Obj.cells #[.slice none 0 0,.slice none 0 0,.int .i64 0,.bool false,.int .i64 0] 55) f fun g h=>st ⟨g,0,none⟩ (HL.mk qb8 e.fst) h fun i=>ldA (qb8) ⟨g,0,none⟩ i fun (j:Sl×Sl×Int×Bool×Int)=>call Tryz.prog 66 ([.agg (List.toArray (HL.mk qb8 j))]) ([.agg qb8,.one (.int .i64)]) i fun (k:(Sl×Sl×Int×Bool×Int)×Int) l=>st ⟨g,0,none⟩ (HL.mk qb8 k.fst) l fun m=>ldA (qb8) ⟨g,0,none⟩ m fun (n:Sl×Sl×Int×Bool×Int)=>call Tryz.prog 30 ([.agg (List.toArray (HL.mk qb8 n))]) ([.raw,.one (.int .i64)]) m fun (o:List Value×Int) p=>newZ Tryz.prog 63 p fun q r=>chk (List.length o.fst=64)<|st ⟨q,0,none⟩ o.fst r fun s=>ldV 64 ⟨q,0,none⟩ s fun t=>runQ [.raw] (fun u=>(Instr.build 66 (#[(0,.pointer c.fst),(1,.pointer c.snd),(2,.agg (List.toArray t))])).run Tryz.prog u) s fun v=>cond (!Option.isNone c.fst) (cond (!Option.isNone c.snd) (chk (List.length v=95)<|st ⟨a,0,none⟩ v s fun x=>ldV 95 ⟨a,0,none⟩ x fun y=>K ((y,o.snd==0)) x) (chk (List.length v=95)<|st ⟨a,0,none⟩ v s fun z=>ldV 95 ⟨a,0,none⟩ z fun A=>K ((A,false)) z)) (chk (List.length v=95)<|st ⟨a,0,none⟩ v s fun B=>ldV 95 ⟨a,0,none⟩ B fun C=>K ((C,false)) B)
def qiR:List Ann:=[.n,.n,.n,.n,.n,.n]
theorem qhw {blocks w K} (hF:qdH blocks K w):call Tryz.prog 26 [.int .i64 blocks] [.raw,.one .bool] w K:=qad (an:=qiR) Tryz.func26 hF
def qcu (b:Option Addr) (o0:Int) (o1:Int) (o2:Int) (o3:Sl) (o4:Int) (o5:Sl) (K:Bool->World->Prop) (w:World):Prop:=new (Obj.cells #[.int .u8 o0,.int .u32 o1,.int .u8 o2,.slice o3.a o3.len o3.cap,.int .u16 o4,.slice o5.a o5.len o5.cap] 52) w fun c d=>ld (.int .u8) ⟨c,0,none⟩ d fun (e:Int)=>cond (Int.tmod e 12==5) (nn b fun f=>ld .ptr ⟨f.block,f.off+1,none⟩ d fun g=>call Tryz.prog 20 ([.pointer g]) ([.one (.int .i64)]) d fun (h:Int) i=>nn b fun j=>ldV 64 ⟨j.block,j.off+2,none⟩ i fun k=>call Tryz.prog 67 ([.agg (List.toArray k)]) ([.raw,.one (.int .i64)]) i fun (l:List Value×Int) m=>newZ Tryz.prog 63 m fun n o=>chk (List.length l.fst=64)<|st ⟨n,0,none⟩ l.fst o fun p=>ldV 64 ⟨n,0,none⟩ p fun q=>nn b fun r=>chk (List.length q=64)<|st ⟨r.block,r.off+2,none⟩ q p fun s=>K (h==l.snd) s) (cond (Int.tmod e 12==6) (nn b fun t=>ld .ptr ⟨t.block,t.off+1,none⟩ d fun u=>call Tryz.prog 68 ([.pointer u]) [] d fun (v:PUnit) x=>nn b fun y=>ldV 64 ⟨y.block,y.off+2,none⟩ x fun z=>call Tryz.prog 69 ([.agg (List.toArray z)]) [.raw] x fun A B=>nn b fun C=>chk (List.length A=64)<|st ⟨C.block,C.off+2,none⟩ A B fun D=>K true D) (cond (Int.tmod e 12==7) (nn b fun E=>ld .ptr ⟨E.block,E.off+1,none⟩ (World.drew d) fun F=>nn b fun G=>ldV 27 (⟨(Addr.add G 2).block,(Addr.add G 2).off+37,none⟩) (World.drew d) fun H=>nn b fun I=>ld (.int .i64) (⟨(Addr.add I 2).block,(Addr.add I 2).off+35,none⟩) (World.drew d) fun (J:Int)=>call Tryz.prog 70 ([.pointer F]) ([.one .ptr]) (World.drew d) fun L M=>held [fun N=>World.cell? N (⟨(Addr.add I 2).block,(Addr.add I 2).off+35,none⟩)=some (.int .i64 J),fun O=>cellsAt O (⟨(Addr.add G 2).block,(Addr.add G 2).off+37,none⟩) 0 H] M<|nn b fun P=>st ⟨P.block,P.off+66,none⟩ ([.pointer L]) M fun Q=>nn b fun R=>chk (List.length H=27)<|st ⟨R.block,R.off+67,none⟩ H Q fun S=>nn b fun T=>st ⟨T.block,T.off+94,none⟩ ([.int .i64 J]) S fun U=>join (PUnit) (fun V=>nn b fun W=>ld .bool (⟨(Addr.add W 2).block,(Addr.add W 2).off+36,none⟩) U fun (X:Bool)=>cond X (nn b fun Y=>st ⟨Y.block,Y.off+94,none⟩ ([.int .i64 (-1)]) U fun Z=>V () Z) (V () U)) fun (aa:PUnit) ab=>nn b fun ac=>ld .ptr ⟨ac.block,ac.off+66,none⟩ (World.drew ab) fun ad=>nn b fun ae=>ld .bool (⟨(Addr.add ae 2).block,(Addr.add ae 2).off+36,none⟩) (World.drew ab) fun (af:Bool)=>K (Option.isNone ad==af) (World.drew ab)) (cond (Int.tmod e 12==8) (nn b fun ag=>ld .ptr ⟨ag.block,ag.off+1,none⟩ (World.drew d) fun ah=>nn b fun ai=>ld .ptr ⟨ai.block,ai.off+66,none⟩ (World.drew d) fun aj=>call Tryz.prog 71 ([.pointer ah,.pointer aj]) ([.one (.int .i64)]) (World.drew d) fun (ak:Int) al=>nn b fun am=>ld .bool (⟨(Addr.add am 2).block,(Addr.add am 2).off+36,none⟩) al fun (an:Bool)=>cond an (K (ak==7) al) (join (Bool) (fun ao=>nn b fun ap=>ld .ptr ⟨ap.block,ap.off+66,none⟩ (World.drew al) fun aq=>cond (Option.isNone aq) (ao true (World.drew al)) (nn b fun ar=>ld (.int .i64) ⟨ar.block,ar.off+94,none⟩ (World.drew al) fun (au:Int)=>nn b fun av=>ld (.int .i64) (⟨(Addr.add av 2).block,(Addr.add av 2).off+35,none⟩) (World.drew al) fun (aw:Int)=>ao (!au==aw) (World.drew al))) fun (ax:Bool) ay=>cond ax (K (ak==10) ay) (nn b fun az=>ldV 27 ⟨az.block,az.off+67,none⟩ ay fun aA=>nn b fun aB=>chk (List.length aA=27)<|st (⟨(Addr.add aB 2).block,(Addr.add aB 2).off+37,none⟩) aA ay fun aC=>K (ak==0) aC))) (cond (Int.tmod e 12==9) (call Tryz.prog 72 ([.pointer b]) ([.one .bool]) d fun (aD:Bool) aE=>K aD aE) (cond (Int.tmod e 12==10) (nn b fun aF=>ld .ptr aF (World.drew d) fun aG=>ld (.int .u32) ⟨c,1,none⟩ (World.drew d) fun (aH:Int)=>call Tryz.prog 17 ([.pointer aG,.int .i64 (IntKind.wrap .i64 (Int.tmod aH 20))]) [] (World.drew d) fun (aI:PUnit) aJ=>nn b fun aL=>ldA (qb8) ⟨aL.block,aL.off+2,none⟩ (World.drew aJ) fun (aM:Sl×Sl×Int×Bool×Int)=>ld (.int .u32) ⟨c,1,none⟩ (World.drew aJ) fun (aN:Int)=>call Tryz.prog 73 ([.agg (List.toArray (HL.mk qb8 aM)),.int .i64 (IntKind.wrap .i64 (Int.tmod aN 20))]) ([.agg qb8]) (World.drew aJ) fun (aO:Sl×Sl×Int×Bool×Int) aP=>nn b fun aQ=>st ⟨aQ.block,aQ.off+2,none⟩ (HL.mk qb8 aO) aP fun aR=>K true aR) (cond (Int.tmod e 12==11) (nn b fun aS=>ld .ptr aS (World.drew d) fun aT=>ld .slice ⟨c,5,none⟩ (World.drew d) fun aU=>call Tryz.prog 22 ([.pointer aT,.slice aU.a aU.len aU.cap]) [] (World.drew d) fun (aV:PUnit) aW=>nn b fun aX=>ldA (qb8) ⟨aX.block,aX.off+2,none⟩ (World.drew aW) fun (aY:Sl×Sl×Int×Bool×Int)=>ld .slice ⟨c,5,none⟩ (World.drew aW) fun aZ=>call Tryz.prog 74 ([.agg (List.toArray (HL.mk qb8 aY)),.slice aZ.a aZ.len aZ.cap]) ([.agg qb8]) (World.drew aW) fun (ba:Sl×Sl×Int×Bool×Int) bb=>nn b fun bc=>st ⟨bc.block,bc.off+2,none⟩ (HL.mk qb8 ba) bb fun bd=>call Tryz.prog 72 ([.pointer b]) ([.one .bool]) bd fun (be:Bool) bf=>K be bf) (ldA (qm7) ⟨c,0,none⟩ d fun (bg:Int×Int×Int×Sl×Int×Sl)=>call Tryz.prog 18 ([.pointer b,.agg (List.toArray (HL.mk qm7 bg))]) ([.one .bool]) d fun (bh:Bool) bi=>K bh bi)))))))
def qfu:List Ann:=[.n,.n,.n,.n,.n,.n,.n,.n,.n,.n,.n,.n,.n,.n,.o [[0,1,2,3,4,5,6,8,9,10,11,12,13,14,15,16,17,7,18,19,20,21,22,23,24,25,26]],.j [],.n,.n,.o [[0,1,2,3,4,5,6,7,8,9,10,11]],.n,.n,.o [[0,1,2,3,4,5,6,7,8,9]],.n,.n,.n,.n,.j [(128,.one .bool)],.o [[0,1,2,3,4,5,6,7,8,9,10,11,12,13,14,15,16]],.n,.n,.n,.n,.n,.n,.n,.o [[0,1,2,3,4,5,6,7,8]],.n,.o [[0,1,2,3,4,5,6,7,8,9,10,11,12,13,14]],.n,.n,.n,.o [[0,1,2,3,4,5,6]],.n,.o [[0,1,2,3,4,5,6,7,8,9,10,11,12]],.n,.n]
theorem qeL {b o0 o1 o2 o3 o4 o5 w K} (hF:qcu b o0 o1 o2 o3 o4 o5 K w):call Tryz.prog 27 [.pointer b,.agg #[.int .u8 o0,.int .u32 o1,.int .u8 o2,.slice o3.a o3.len o3.cap,.int .u16 o4,.slice o5.a o5.len o5.cap]] [.one .bool] w K:=qad (an:=qfu) Tryz.func27 hF
def qcr (b:Option Addr) (K:Bool->World->Prop) (w:World):Prop:=nn b fun a=>ld .ptr a w fun c=>call Tryz.prog 24 ([.pointer c]) ([.one .ptr,.one (.int .i64)]) w fun (d:Option Addr×Int) e=>nn b fun f=>ldA (qb8) ⟨f.block,f.off+2,none⟩ e fun (g:Sl×Sl×Int×Bool×Int)=>call Tryz.prog 30 ([.agg (List.toArray (HL.mk qb8 g))]) ([.raw,.one (.int .i64)]) e fun (h:List Value×Int) i=>newZ Tryz.prog 63 i fun j k=>chk (List.length h.fst=64)<|st ⟨j,0,none⟩ h.fst k fun l=>join (Bool) (fun m=>cond (!d.snd==h.snd) (m true l) (m (!Option.isNone d.fst==!h.snd==0) l)) fun (n:Bool) o=>cond n (K false o) (join (PUnit) (fun p=>cond (h.snd==0) (nn b fun q=>ld (.int .i64) (⟨(Addr.add q 2).block,(Addr.add q 2).off+35,none⟩) o fun (r:Int)=>st ⟨j,35,none⟩ ([.int .i64 (IntKind.wrap .i64 (r+2))]) o fun s=>ldV 64 ⟨j,0,none⟩ (World.drew s) fun t=>nn b fun u=>st ⟨u.block,u.off+1,none⟩ ([.pointer d.fst]) (World.drew s) fun v=>held [fun x=>cellsAt x ⟨j,0,none⟩ 0 t] v<|nn b fun y=>chk (List.length t=64)<|st ⟨y.block,y.off+2,none⟩ t v fun z=>nn b fun A=>st ⟨A.block,A.off+66,none⟩ ([.pointer none]) z fun B=>nn b fun C=>st ⟨C.block,C.off+94,none⟩ ([.int .i64 (-1)]) B fun D=>p () D) (p () o)) fun (E:PUnit) F=>K true F)
def qfE:List Ann:=[.n,.n,.n,.n,.j [(33,.one .bool)],.n,.j [],.n,.n,.o [[0,1,2,3,4,5,6,7,8,9,10,11,12,13,14,15,16,17]],.n]
theorem qeI {b w K} (hF:qcr b K w):call Tryz.prog 72 [.pointer b] [.one .bool] w K:=qad (an:=qfE) Tryz.func72 hF
def qcN (o0:Int) (o1:Int) (o2:Int) (o3:Sl) (o4:Int) (o5:Sl) (K:Sl->World->Prop) (w:World):Prop:=new (Obj.cells #[.int .u8 o0,.int .u32 o1,.int .u8 o2,.slice o3.a o3.len o3.cap,.int .u16 o4,.slice o5.a o5.len o5.cap] 52) w fun b c=>ld .slice ⟨b,3,none⟩ (World.drew c) fun d=>ld (.int .u16) ⟨b,4,none⟩ (World.drew c) fun (e:Int)=>new (Obj.cells #[] 5) (World.drew c) fun f g=>held [fun h=>World.cell? h ⟨b,4,none⟩=some (.int .u16 e),fun i=>World.cell? i ⟨b,3,none⟩=some (.slice d.a d.len d.cap)] g<|run [.one .slice] ((Builtin.append_ (#[22,22]) 22 (#[.slice (some ⟨f,0,none⟩) 0 0,.slice d.a d.len d.cap])).run Tryz.prog g) fun j k=>held [fun l=>World.cell? l ⟨b,4,none⟩=some (.int .u16 e)] k<|run [.one .slice] ((Builtin.append_ (#[22,3]) 22 (#[.slice j.a j.len j.cap,.int .i64 (Int.tmod (IntKind.wrap .i64 e) 600)])).run Tryz.prog k) fun m n=>K m n
def qgO:List Ann:=[.n,.n,.o [[1,2,4,5,6,7,0,3,8,9]]]
theorem qfy {o0 o1 o2 o3 o4 o5 w K} (hF:qcN o0 o1 o2 o3 o4 o5 K w):call Tryz.prog 47 [.agg #[.int .u8 o0,.int .u32 o1,.int .u8 o2,.slice o3.a o3.len o3.cap,.int .u16 o4,.slice o5.a o5.len o5.cap]] [.one .slice] w K:=qad (an:=qgO) Tryz.func47 hF
end Go.Proofs.YtmbcedengdoamaaGreatDoor
end
section
set_option linter.unusedVariables false
set_option linter.unusedSimpArgs false
namespace Go.Proofs.YtmbcedengdoamaaGreatDoor
open Go Go.Pt
attribute [local irreducible] ld ldA ldV fld fldA newZ st new idx idxS idxA slc slcS slcP mkS chk nn call callV inv run runQ runU join loop held ext rng undefer s2a nxt ent IntKind.wrap
abbrev BTT:TypeId:=66
abbrev OPT:TypeId:=52
def bothV (d p:Option Addr) (x:RV) (m:Option Addr) (wv:List Value) (t:Int):List Value:=[.pointer d,.pointer p]++refV x++(.pointer m::wv++[.int .i64 t])
section
variable {d p m:Option Addr} {x x':RV} {wv:List Value} {t:Int}
theorem qlC (hx:x.Ok):([Value.pointer d,.pointer p]++refV x).length=66:=by rw [List.length_append,qaw hx]; rfl
theorem qpd (hx:x.Ok) (hw:wv.length=27):(bothV d p x m wv t).length=95:=by rw [bothV,List.length_append,qlC hx,List.length_append,List.length_cons,hw]; rfl
theorem qaN (hx:x.Ok) (hw:wv.length=27):(bothV d p x m wv t).toArray.size=95:=qpd hx hw
theorem qtU:(bothV d p x m wv t).toArray[0]?=some (.pointer d):=rfl
theorem qck:(bothV d p x m wv t).toArray[1]?=some (.pointer p):=rfl
theorem quB (hx:x.Ok):((bothV d p x m wv t).toArray.toList.drop 2).take 64=refV x:=by
 show ((refV x++(Value.pointer m::wv++[Value.int .i64 t])).take 64)=_
 have:=List.take_left (l₁:=refV x) (l₂:=Value.pointer m::wv++[Value.int .i64 t])
 rw [qaw hx] at this
 exact this
theorem qoA (hx:x.Ok):((bothV d p x m wv t).toArray.toList.drop 2).take 5=HL.mk dC x.d:=rfl
theorem qkg (hx:x.Ok) (hx':x'.Ok):splice (bothV d p x m wv t).toArray 2 (refV x')=(bothV d p x' m wv t).toArray:=by
 have:=qap (A:=[Value.pointer d,.pointer p]) (X:=refV x) (Y:=refV x') (Z:=.pointer m::wv++[.int .i64 t]) (by rw [qaw hx,qaw hx'])
 exact this
theorem qqT (hx:x.Ok) {d':RDv}:splice (bothV d p x m wv t).toArray 2 (HL.mk dC d')=(bothV d p { x with d:=d' } m wv t).toArray:=by
 have:=qap (A:=[Value.pointer d,.pointer p]) (X:=rvA x) (Y:=(rdC d').toList) (Z:=(supV x.sup.1 x.sup.2++rvB x++rvW x)++(.pointer m::wv++[.int .i64 t])) rfl
 have e1:bothV d p x m wv t=[Value.pointer d,.pointer p]++rvA x++((supV x.sup.1 x.sup.2++rvB x++rvW x)++(.pointer m::wv++[.int .i64 t])):=by simp only [bothV,refV,List.append_assoc]
 have e2:bothV d p { x with d:=d' } m wv t=[Value.pointer d,.pointer p]++(rdC d').toList++((supV x.sup.1 x.sup.2++rvB x++rvW x)++(.pointer m::wv++[.int .i64 t])):=by simp only [bothV,refV,rvA,rvB,rvW,List.append_assoc]
 rw [e1,e2]; exact this
theorem qsS (hw:wv.all Value.oneCell'=true):(bothV d p x m wv t).all Value.oneCell'=true:=by
 rw [bothV,List.all_append,List.all_append,qhh]
 simp only [List.all_cons,List.all_append,hw]
 rfl
end
structure OpM where
 act:Int
 n:Int
 kind:Int
 body:List Int
 long:Int
 lost:List (Int×Int)
abbrev OpC:=Int×Int×Int×Sl×Int×Sl
def opA (o:OpC):Array Value:=#[.int .u8 o.1,.int .u32 o.2.1,.int .u8 o.2.2.1,.slice o.2.2.2.1.a o.2.2.2.1.len o.2.2.2.1.cap,.int .u16 o.2.2.2.2.1,.slice o.2.2.2.2.2.a o.2.2.2.2.2.len o.2.2.2.2.2.cap]
structure OpOk (S:List Nat) (w:World) (o:OpC) (a:OpM):Prop where
 act:o.1=a.act
 n:o.2.1=a.n
 kind:o.2.2.1=a.kind
 body:RdB S w o.2.2.2.1 a.body
 long:o.2.2.2.2.1=a.long
 lost:Rds encLoss 2 S w o.2.2.2.2.2 a.lost
 ract:0<=a.act/\a.act<256
 rn:U32 a.n
 rkind:0<=a.kind/\a.kind<256
 rlong:0<=a.long/\a.long<65536
 rbody:IsB a.body
theorem OpOk.frame {S S':List Nat} {w w':World} {o:OpC} {a:OpM} (h:OpOk S w o a) (f:Fr S w w') (hS:∀ b∈S',b∈S\/w.heap.size<=b):OpOk S' w' o a:=
 ⟨h.act,h.n,h.kind,h.body.frame f hS,h.long,h.lost.frame f hS,h.ract,h.rn,h.rkind,h.rlong,h.rbody⟩
theorem OpOk.frame0 {S:List Nat} {w w':World} {o:OpC} {a:OpM} (h:OpOk S w o a) (f:Fr [] w w'):OpOk S w' o a:=
 ⟨h.act,h.n,h.kind,h.body.frame0 f,h.long,h.lost.frame0 f,h.ract,h.rn,h.rkind,h.rlong,h.rbody⟩
def OpM.all (a:OpM):List Int:=a.body++zs (a.long%600).toNat
theorem OpM.all_IsB {a:OpM} (h:IsB a.body):IsB a.all:=h.append (IsB.zs _)
theorem OpM.all_len {a:OpM} (h:a.body.length<=600) (hl:0<=a.long):a.all.length<=1200:=by
 rw [OpM.all,List.length_append,qaC]
 omega
theorem qct {S:List Nat} {w:World} {o:OpC} {a:OpM} {K:Sl->World->Prop} (h:OpOk S w o a) (hl:a.body.length<=600) (hk:∀ s B w',BufB w' s a.all B->Fr [] w w'->(∀ b∈B,w.heap.size<=b)->K s w') :
  call Tryz.prog 47 [.agg (opA o)] [.one .slice] w K:=by
 obtain ⟨o0,o1,o2,o3,o4,o5⟩:=o
 refine qfy (o0:=o0) (o1:=o1) (o2:=o2) (o3:=o3) (o4:=o4) (o5:=o5) ?_
 unfold qcN
 have hb:=h.body
 have hlong:=h.long
 have hrl:=h.rlong
 dsimp only at hb hlong
 refine Own.new' (Own.start [] w) fun r w1 e1 f1 ho=>?_
 have hod:=ho.drew
 refine Own.ld (c:=.slice) hod 0 rfl o3 rfl ?_
 refine Own.ld (c:=.int .u16) hod 0 rfl o4 rfl ?_
 refine Own.new' hod fun r5 w2 e2 f2 ho2=>?_
 refine qaO (ho2.cell 1 rfl rfl) (ho2.cell 1 rfl rfl) ?_
 obtain ⟨i,hi,hz,hsz,hby⟩:=qoF
 have f02:=ho2.fr
 have hrd:RdB [] w2 o3 a.body:=Rds.weak (hb.frame0 f02) fun b hb=>nomatch hb
 have hb0:Buf encB 1 w2 ⟨some ⟨r5,0,none⟩,0,0⟩ [] [r5]:=Buf.empty (ho2.at (i:=0) rfl)
 refine Buf.appSrc (s:=⟨some ⟨r5,0,none⟩,0,0⟩) (e:=5) (l:=[]) (ys:=a.body) hb0 qau (by kernel_rfl) hi hz hsz rfl (qhs (e':=5) hrd qau (fun x u hu=>by simp only [encB,List.mem_singleton] at hu; subst hu; rfl) (by kernel_rfl)) hrd.1 (by rw [hby,hrd.1]; simp; omega) (by rw [hrd.1]; simp; omega) fun s3 B3 w3 b3 f3 n3 hs3=>?_
 rw [List.nil_append] at b3
 have l5:w1.heap.size<=r5:=by rw [e2]; exact Nat.le_refl _
 have f23:Fr [] w1 w3:=((Fr.refl [] w1).drew.trans f2).trans' f3 fun b hb=>by rw [List.mem_singleton.1 hb]; exact .inr l5
 have ho3:=ho.frame0 f23
 refine qar (ho3.cell 0 rfl rfl) ?_
 have hn:Int.tmod (IntKind.wrap .i64 o4) 600=((a.long%600).toNat:Int):=by
  rw [wi' o4 (by omega),hlong,Int.tmod_eq_emod_of_nonneg hrl.1]
  omega
 rw [hn]
 refine qvp (kd:=.i64) b3 (fun e=>?_) (by kernel_rfl) (by kernel_rfl) hi hz rfl hsz hby (by omega) (by omega) fun s4 B4 w4 b4 f4 n4=>?_
 ·rcases hs3 with h | ⟨h,_⟩
  ·rw [e] at h; cases h
  ·cases h
 ·have hB3:∀ b∈B3,w.heap.size<=b:=fun b hb=>by
   have:=f1.size
   rcases n3 b hb with h | h
   ·rw [List.mem_singleton.1 h]; omega
   ·have:=f02.size; omega
  refine hk s4 B4 w4 b4 (ho3.fr.trans' f4 fun b hb=>.inr (hB3 b hb)) fun b hb=>?_
  rcases n4 b hb with h | h
  ·exact hB3 b h
  ·exact Nat.le_trans ho3.fr.size h
section
structure Pair (w:World) (bb dbk pb:Nat) (FD X F:List Nat) (x:RV) (D:DiskM) (M:PgM) (D':DiskM) (M':PgM) (k:Nat) (m:Option Addr) (wv:List Value) (t:Int):Prop where
 cell:w.heap[bb]?=some (.cells (bothV (some ⟨dbk,0,none⟩) (some ⟨pb,0,none⟩) x m wv t).toArray BTT (0,0))
 disk:DiskAt w dbk FD D
 lim:Lim D k
 pager:PagerAt w X pb (dbOf dbk M) F M
 sub:∀ b∈FD,b∈X
 bx:bb∈X
 nd:bb∉FD
 ref:RP (X++F) w x D' M'
 wl:wv.length=27
 w1:wv.all Value.oneCell'=true
section
variable {w w':World} {bb dbk pb:Nat} {FD X F:List Nat} {x:RV} {D D':DiskM} {M M':PgM} {k:Nat} {m:Option Addr} {wv:List Value} {t:Int}
theorem Pair.frame0 (h:Pair w bb dbk pb FD X F x D M D' M' k m wv t) (f:Fr [] w w'):Pair w' bb dbk pb FD X F x D M D' M' k m wv t:=
 ⟨by rw [f.block bb (qab h.cell) (by simp)]; exact h.cell,h.disk.frame0 f,h.lim,h.pager.frame0 f,h.sub,h.bx,h.nd,h.ref.frame0 f,h.wl,h.w1⟩
theorem Pair.bnF (h:Pair w bb dbk pb FD X F x D M D' M' k m wv t):bb∉F:=h.pager.sep bb h.bx
theorem Pair.lt (h:Pair w bb dbk pb FD X F x D M D' M' k m wv t):∀ b∈X++F,b<w.heap.size:=fun b hb=>(List.mem_append.1 hb).elim (h.pager.xlt b) (h.pager.lt b)
theorem Pair.real {F2:List Nat} {M2:PgM} (h:Pair w bb dbk pb FD X F x D M D' M' k m wv t) (hp:PagerAt w' X pb (dbOf dbk M) F2 M2) (ho:M2.over=M.over) (f:Fr F w w') (n:∀ b∈F2,b∈F\/w.heap.size<=b):Pair w' bb dbk pb FD X F2 x D M2 D' M' k m wv t:=
 ⟨by rw [f.block bb (qab h.cell) h.bnF]; exact h.cell,h.disk.frame f fun b hb=>h.pager.sep b (h.sub b hb),h.lim,by rw [dbOf,ho]; exact hp,h.sub,h.bx,h.nd,
  h.ref.frame (f.mono fun b hb _=>List.mem_append_right _ hb) (fun b hb=>(List.mem_append.1 hb).elim (fun h=>.inl (List.mem_append_left _ h)) fun hb=>(n b hb).imp (List.mem_append_right _) id),h.wl,h.w1⟩
theorem qbb {wq:World} {r:Nat} {x':RV} {M2:PgM} {D2:DiskM} {K:World->Prop} (h:Pair w bb dbk pb FD X F x D M D' M' k m wv t) (f:Fr [] w wq) (hz:wq.heap[r]?=some (.cells (refV rvZ).toArray RPT (0,0))) (hrn:w.heap.size<=r) (hr:RP (r::(X++F)) wq x' D2 M2)
  (kk:∀ w',Pair w' bb dbk pb FD X F x' D M D2 M2 k m wv t->Fr [bb] w w'->K w') :
  chk ((refV x').length=64) (st ⟨r,0,none⟩ (refV x') wq fun w32=>ldV 64 ⟨r,0,none⟩ w32 fun vs=>nn (some ⟨bb,0,none⟩) fun a=>chk (vs.length=64) (st ⟨a.block,a.off+2,none⟩ vs w32 fun w35=>K w35)):=by
 have hx:=h.ref.ok
 have hx':=hr.ok
 have l64:=qaw hx'
 have lz:=qaw qaq
 refine qak l64 ?_
 refine qaQ hz (refV x').toArray (qaZ (by rw [List.size_toArray,lz,l64])) qhh (by rw [List.size_toArray,lz,l64]; exact Nat.le_of_ble_eq_true rfl) fun w1 c1 f1=>?_
 refine qas c1 (refV x') l64 (by rw [List.drop_zero,List.take_of_length_le (Nat.le_of_eq l64)]) ?_
 refine qac (qak l64 ?_)
 have f01:Fr [] w w1:=f.trans' f1 fun b hb=>by rw [List.mem_singleton.1 hb]; exact .inr hrn
 have h1:=h.frame0 f01
 have hbr:bb≠r:=by have:=qab h.cell; omega
 refine qaQ (off:=0+2) h1.cell (bothV (some ⟨dbk,0,none⟩) (some ⟨pb,0,none⟩) x' m wv t).toArray (qkg hx hx') qhh (by rw [qaN hx h.wl,l64]; exact Nat.le_of_ble_eq_true rfl) fun w2 c2 f2=>?_
 have hr2:RP (X++F) w2 x' D2 M2:=hr.frame ((f1.mono fun b hb _=>by rw [List.mem_singleton.1 hb]; simp:Fr (r::(X++F)) wq w1).trans (f2.mono fun b hb _=>by rw [List.mem_singleton.1 hb]; exact List.mem_cons_of_mem _ (List.mem_append_left _ h.bx))) fun b hb=>.inl (List.mem_cons_of_mem _ hb)
 refine kk w2 ⟨c2,h1.disk.frame f2 fun b hb hm=>h.nd ((show b=bb from List.mem_singleton.1 hm)▸hb),h.lim,h1.pager.frameX (f2.mono fun b hb _=>by rw [List.mem_singleton.1 hb]; exact h.bx) (fun b hb=>Nat.lt_of_lt_of_le (h1.pager.xlt b hb) f2.size) (fun b hb=>.inl hb),h.sub,h.bx,h.nd,hr2,h.wl,h.w1⟩ ((f01.mono fun b hb=>nomatch hb).trans f2)
structure PgM.Small (M:PgM):Prop where
 lists:M.lists.length<=100000
 free:M.free.length<=100000
 deferred:M.deferred.length<=100000
 fresh:M.fresh.length<=100000
 freeS:M.free.Pairwise (· < ·)
 defS:M.deferred.Pairwise (· < ·)
 body:∀ e∈M.fresh,e.2.2.length<=100000
 bytes:∀ e∈M.fresh,IsB e.2.2
end
def pageM (D D':DiskM) (M M':PgM) (a:OpM):Bool×PgM×PgM:=
 if a.act%12=0 then (decide ((makeV M a.kind a.all).1=(makeR M' a.kind a.all).1),(makeV M a.kind a.all).2,(makeR M' a.kind a.all).2)
 else if a.act%12=1 then (decide ((putV M a.n a.kind a.all).1=(putV M' a.n a.kind a.all).1),(putV M a.n a.kind a.all).2,(putV M' a.n a.kind a.all).2)
 else if a.act%12=2 then (decide ((dropV M a.n).1=(dropV M' a.n).1),(dropV M a.n).2,(dropV M' a.n).2)
 else if a.act%12=3 then (decide (pagerReadM D M a.n=pagerReadM D' M' a.n),M,M')
 else (decide ((setRootM M (IntKind.wrap .i32 a.n) a.n a.kind a.long).1=(setRootM M' (IntKind.wrap .i32 a.n) a.n a.kind a.long).1),(setRootM M (IntKind.wrap .i32 a.n) a.n a.kind a.long).2,(setRootM M' (IntKind.wrap .i32 a.n) a.n a.kind a.long).2)
theorem qr1 (M:PgM) (kd:Int) (l:List Int):(makeV M kd l).2.over=M.over:=by unfold makeV; split; rfl; split; rfl; split <;> rfl
theorem qsV (M:PgM) (n kd:Int) (l:List Int):(putV M n kd l).2.over=M.over:=by
 unfold putV
 split
 ·rfl
 ·split
  ·rfl
  ·split <;> rfl
theorem qrE (M:PgM) (n:Int):(dropV M n).2.over=M.over:=by
 unfold dropV
 split
 ·rfl
 ·split
  ·rfl
  ·split <;> rfl
theorem qoy (M:PgM) (t a b c:Int):(setRootM M t a b c).2.over=M.over:=by
 unfold setRootM
 split
 ·rfl
 ·split <;> rfl
abbrev opCs:List Cell:=[.int .u8,.int .u32,.int .u8,.slice,.int .u16,.slice]
theorem qm0 (x:Int):-2147483648<=IntKind.wrap .i32 x/\IntKind.wrap .i32 x<2147483648:=by
 unfold IntKind.wrap
 have h1:(IntKind.i32.signed)=true:=rfl
 have h2:∀ y:Int,y%(2:Int)^IntKind.i32.bits=y%4294967296:=fun y=>rfl
 have h3:(2:Int)^IntKind.i32.bits=4294967296:=rfl
 have h4:(2:Int)^(IntKind.i32.bits-1)=2147483648:=rfl
 simp only [h1,h3,h4,Bool.true_and,decide_eq_true_eq]
 split <;> omega
theorem qg6 {D:DiskM} {M:PgM} (hD:D.Ok) (hB:∀ e∈M.fresh,IsB e.2.2) (n:Int):IsB (pagerReadM D M n).2.1:=by
 have hz:IsB ([]:List Int):=fun x hx=>nomatch hx
 unfold pagerReadM
 split
 ·exact hz
 split
 ·rename_i q hq
  exact hB _ (qaI hq).2
 ·split
  ·exact hz
  split
  ·exact hz
  ·exact (qge (qa3 hD n).1 n).1
theorem quW {w:World} {bb dbk pb:Nat} {FD X F:List Nat} {x:RV} {D D':DiskM} {M M':PgM} {k:Nat} {m:Option Addr} {wv:List Value} {t:Int} {o:OpC} {a:OpM} {K:Bool->World->Prop}
  (h:Pair w bb dbk pb FD X F x D M D' M' k m wv t) (hM:M.Small) (hM':M'.Small) (hD':D'.Ok) (hv:Hv w) (hop:OpOk (X++F) w o a) (hl:a.body.length<=600)
  (kk:∀ F2 x2 w2,Pair w2 bb dbk pb FD X F2 x2 D (pageM D D' M M' a).2.1 D' (pageM D D' M M' a).2.2 k m wv t->Fr (bb::F) w w2->(∀ b∈F2,b∈F\/w.heap.size<=b)->K (pageM D D' M M' a).1 w2) :
  call Tryz.prog 18 [.pointer (some ⟨bb,0,none⟩),.agg (opA o)] [.one .bool] w K:=by
 obtain ⟨o0,o1,o2,o3,o4,o5⟩:=o
 have ea:o0=a.act:=hop.act
 have en:o1=a.n:=hop.n
 have ek:o2=a.kind:=hop.kind
 have el:o4=a.long:=hop.long
 have hact:=hop.ract
 have hnu:=hop.rn
 have hkd:=hop.rkind
 have hlg:=hop.rlong
 have hBa:=OpM.all_IsB hop.rbody
 have hLa:=OpM.all_len hl hlg.1
 refine qeF (b:=some ⟨bb,0,none⟩) (o0:=o0) (o1:=o1) (o2:=o2) (o3:=o3) (o4:=o4) (o5:=o5) ?_
 unfold qcp
 refine Own.new' (Own.start F w) fun r1 w2 e2 f2 ho=>?_
 have h2:=h.frame0 f2
 have ok2:=hop.frame0 f2
 have hx:=h.ref.ok
 have l64:=qaw hx
 have sepO:∀ {L:List (Nat×Obj)},(∀ p∈L,w.heap.size<=p.1)->∀ p∈L,p.1∉F:=fun hL p hp hb=>by have:=hL p hp; have:=h.pager.lt _ hb; omega
 have hr1:∀ p∈[(r1,Obj.cells (opA (o0,o1,o2,o3,o4,o5)) OPT (0,0))],w.heap.size<=p.1:=fun p hp=>by rw [List.mem_singleton.1 hp]; show w.heap.size<=r1; omega
 refine Own.ld (c:=.int .u8) ho 0 rfl o0 rfl ?_
 have htm:Int.tmod o0 12=a.act%12:=by rw [ea,Int.tmod_eq_emod_of_nonneg hact.1]
 rw [htm]
 have hod:=ho.drew
 have h2d:=h2.frame0 (Fr.refl [] w2).drew
 have ok2d:=ok2.frame0 (Fr.refl [] w2).drew
 have bvx:((bothV (some ⟨dbk,0,none⟩) (some ⟨pb,0,none⟩) x m wv t).toArray.toList.drop (0+2)).take 64=refV x:=quB hx
 have cellP:∀ {w':World},w'.heap[bb]?=some (.cells (bothV (some ⟨dbk,0,none⟩) (some ⟨pb,0,none⟩) x m wv t).toArray BTT (0,0))->w'.cell? ⟨bb,0+1,none⟩=some (.pointer (some ⟨pb,0,none⟩)):=fun hc=>by rw [qaj hc]; exact qck
 have cellsX:∀ {w':World},w'.heap[bb]?=some (.cells (bothV (some ⟨dbk,0,none⟩) (some ⟨pb,0,none⟩) x m wv t).toArray BTT (0,0))->cellsAt w' ⟨bb,0+2,none⟩ 0 (refV x):=fun hc=>qaK hc _ _ 0 (by rw [Nat.add_zero,l64]; exact bvx)
 have cellsO:∀ {w':World} {r:Nat},w'.heap[r]?=some (.cells (opA (o0,o1,o2,o3,o4,o5)) OPT (0,0))->cellsAt w' ⟨r,0,none⟩ 0 (HL.mk opCs (o0,o1,o2,o3,o4,o5)):=fun hc=>qaK hc _ _ 0 rfl
 refine qaa (fun hc=>?_) (fun hc0=>?_)
 ·have h0:a.act%12=0:=by simpa using hc
  rw [show pageM D D' M M' a=(decide ((makeV M a.kind a.all).1=(makeR M' a.kind a.all).1),(makeV M a.kind a.all).2,(makeR M' a.kind a.all).2) from if_pos h0] at kk
  subst ek
  refine qac ?_
  refine qae (c:=.ptr) (off:=0+1) h2d.cell (some ⟨pb,0,none⟩) qck ?_
  refine Own.ld (c:=.int .u8) hod 0 rfl a.kind rfl ?_
  refine Own.ldA (cl:=opCs) hod 0 rfl (o0,o1,a.kind,o3,o4,o5) rfl ?_
  refine qct (o:=(o0,o1,a.kind,o3,o4,o5)) ok2d hl fun s8 B8 w9 b8 f9 n8=>?_
  have ho9:=hod.frame0 f9
  have h9:=h2d.frame0 f9
  refine qaO (ho9.cell 0 rfl rfl) (cellP h9.cell) ?_
  have hf2:=f2.size
  have away:∀ b∈B8,b∉X++F:=fun b hb hm=>by have:=n8 b hb; have:=h.lt b hm; have:w2.heap.size<=b:=n8 b hb; omega
  refine qo8 h9.pager (Buf.rds qau b8 away) (by omega) (Nat.le_trans hM.free (by decide)) fun F13 w13 hp13 f13 n13=>?_
  have h13:=h9.real hp13 (qr1 M a.kind a.all) f13 n13
  have ho13:=(ho9.frame f13 (fun b hb=>.inl hb) (sepO hr1)).drew
  have h13d:=h13.frame0 (Fr.refl [] w13).drew
  have f09:Fr [] w w9:=(f2.trans (Fr.refl [] w2).drew).trans f9
  have ok13:OpOk (X++F13) w13.drew (o0,o1,a.kind,o3,o4,o5) a:=((hop.frame0 f09).frame (S':=X++F13) (f13.mono fun b hb _=>List.mem_append_right _ hb) (fun b hb=>(List.mem_append.1 hb).elim (fun h=>.inl (List.mem_append_left _ h)) fun hb=>(n13 b hb).imp (List.mem_append_right _) id)).frame0 (Fr.refl [] w13).drew
  have fin:∀ {x5:RV} {w35:World},Pair w35 bb dbk pb FD X F13 x5 D (makeV M a.kind a.all).2 D' (makeR M' a.kind a.all).2 k m wv t->Fr [bb] w13 w35->
    cond ((makeV M a.kind a.all).1.1==(makeR M' a.kind a.all).1.1) (K ((makeV M a.kind a.all).1.2==(makeR M' a.kind a.all).1.2) w35) (K false w35):=by
   intro x5 w35 h35 f35
   have hK:=kk F13 x5 w35 h35 ((f09.mono fun b hb=>nomatch hb).trans ((f13.mono fun b hb _=>List.mem_cons_of_mem _ hb).trans (f35.mono fun b hb _=>by rw [List.mem_singleton.1 hb]; simp))) fun b hb=>(n13 b hb).imp id fun h=>Nat.le_trans f09.size h
   refine qaa (fun hc=>?_) (fun hc=>?_)
   ·have e1:(makeV M a.kind a.all).1.1=(makeR M' a.kind a.all).1.1:=by simpa using hc
    rw [show ((makeV M a.kind a.all).1.2==(makeR M' a.kind a.all).1.2)=decide ((makeV M a.kind a.all).1=(makeR M' a.kind a.all).1) from by
     by_cases e2:(makeV M a.kind a.all).1.2=(makeR M' a.kind a.all).1.2
     ·rw [decide_eq_true (Prod.ext e1 e2),beq_iff_eq]; exact e2
     ·rw [decide_eq_false (fun e=>e2 (congrArg Prod.snd e)),beq_eq_false_iff_ne]; exact e2]
    exact hK
   ·have e1:¬ (makeV M a.kind a.all).1.1=(makeR M' a.kind a.all).1.1:=by simpa using hc
    rw [decide_eq_false (fun e=>e1 (congrArg Prod.fst e))] at hK
    exact hK
  refine ⟨?_,?_,?_⟩
  ·refine qac ?_
   refine qas (off:=0+2) h13d.cell (refV x) l64 bvx ?_
   refine Own.ld (c:=.int .u8) ho13 0 rfl a.kind rfl ?_
   refine Own.ldA (cl:=opCs) ho13 0 rfl (o0,o1,a.kind,o3,o4,o5) rfl ?_
   refine qct (o:=(o0,o1,a.kind,o3,o4,o5)) ok13 hl fun s18 B18 w19 b18 f19 n18=>?_
   have ho19:=ho13.frame0 f19
   have h19:=h13d.frame0 f19
   have rd18:=Buf.rds (S:=[]) qau b18 (fun b hb hm=>nomatch hm)
   refine qaO (ho19.cell 0 rfl rfl) (cellsX h19.cell) ?_
   refine qa4 (S:=[]) rd18 hBa ?_
   refine qlp (S:=X++F13) (l:=a.all) h19.ref h19.lt hM'.fresh hM'.free fun x5 w25 hp25 f25=>?_
   have ho25:=ho19.frame0 f25
   have h25:=h19.frame0 f25
   refine Own.newZ (Own.start [] w25) qbh fun r w27 e27 hoz=>?_
   have ho27:=ho25.frame0 hoz.fr
   have h27:=h25.frame0 hoz.fr
   refine qgo (qco (S:=[]) (rd18.frame0 (f25.trans hoz.fr)) hBa) (cellsO (ho27.at (i:=0) rfl)) (ho27.cell 0 rfl rfl) (cellsX h27.cell) ?_
   have f1327:Fr [] w13 w27:=(((Fr.refl [] w13).drew.trans f19).trans f25).trans hoz.fr
   refine qbb h13 f1327 (hoz.at (i:=0) rfl) (by rw [e27]; exact (((Fr.refl [] w13).drew.trans f19).trans f25).size) (hp25.frame (hoz.fr.mono fun b hb=>nomatch hb) fun b hb=>(List.mem_cons.1 hb).elim (fun e=>.inr (by rw [e,e27]; exact Nat.le_refl _)) .inl) fun w35 h35 f35=>?_
   exact fin h35 f35
  ·refine qac ?_
   refine qas (off:=0+2) h13d.cell (refV x) l64 bvx ?_
   refine Own.ld (c:=.int .u8) ho13 0 rfl a.kind rfl ?_
   refine Own.ldA (cl:=opCs) ho13 0 rfl (o0,o1,a.kind,o3,o4,o5) rfl ?_
   refine qct (o:=(o0,o1,a.kind,o3,o4,o5)) ok13 hl fun s18 B18 w19 b18 f19 n18=>?_
   have ho19:=ho13.frame0 f19
   have h19:=h13d.frame0 f19
   have rd18:=Buf.rds (S:=[]) qau b18 (fun b hb hm=>nomatch hm)
   refine qaO (ho19.cell 0 rfl rfl) (cellsX h19.cell) ?_
   refine qa4 (S:=[]) rd18 hBa ?_
   refine Own.newZ (Own.start [] w19) qbh fun r w27 e27 hoz=>?_
   have ho27:=ho19.frame0 hoz.fr
   have h27:=h19.frame0 hoz.fr
   refine qgo (qco (S:=[]) (rd18.frame0 hoz.fr) hBa) (cellsO (ho27.at (i:=0) rfl)) (ho27.cell 0 rfl rfl) (cellsX h27.cell) ?_
   have hrQ:RP (r::(X++F13)) w27 x D' M':=h19.ref.frame (hoz.fr.mono fun b hb=>nomatch hb) fun b hb=>(List.mem_cons.1 hb).elim (fun e=>.inr (by rw [e,e27]; exact Nat.le_refl _)) .inl
   have hSQ:∀ b∈r::(X++F13),b<w27.heap.size:=fun b hb=>(List.mem_cons.1 hb).elim (fun e=>by rw [e]; exact qab (hoz.at (i:=0) rfl)) (h27.lt b)
   refine qlp (S:=r::(X++F13)) (l:=a.all) hrQ hSQ hM'.fresh hM'.free fun x5 w25 hp25 f25=>?_
   have f1325:Fr [] w13 w25:=(((Fr.refl [] w13).drew.trans f19).trans hoz.fr).trans f25
   refine qbb h13 f1325 ((hoz.frame0 f25).at (i:=0) rfl) (by rw [e27]; exact ((Fr.refl [] w13).drew.trans f19).size) hp25 fun w35 h35 f35=>?_
   exact fin h35 f35
  ·refine qac ?_
   refine qas (off:=0+2) h13d.cell (refV x) l64 bvx ?_
   refine Own.ld (c:=.int .u8) ho13 0 rfl a.kind rfl ?_
   refine Own.ldA (cl:=opCs) ho13 0 rfl (o0,o1,a.kind,o3,o4,o5) rfl ?_
   refine Own.newZ (Own.start [] w13.drew) qbh fun r w27 e27 hoz=>?_
   have ho27:=ho13.frame0 hoz.fr
   have h27:=h13d.frame0 hoz.fr
   have ok27:=ok13.frame0 hoz.fr
   refine qa9 (cellsO (ho27.at (i:=0) rfl)) (ho27.cell 0 rfl rfl) (cellsX h27.cell) ?_
   refine qct (o:=(o0,o1,a.kind,o3,o4,o5)) ok27 hl fun s18 B18 w19 b18 f19 n18=>?_
   have ho19:=ho27.frame0 f19
   have h19:=h27.frame0 f19
   have rd18:=Buf.rds (S:=[]) qau b18 (fun b hb hm=>nomatch hm)
   refine qaO (ho19.cell 0 rfl rfl) (cellsX h19.cell) ?_
   refine qa4 (S:=[]) rd18 hBa ?_
   have hrQ:RP (r::(X++F13)) w19 x D' M':=(h13d.ref.frame (hoz.fr.mono fun b hb=>nomatch hb) fun b hb=>(List.mem_cons.1 hb).elim (fun e=>.inr (by rw [e,e27]; exact Nat.le_refl _)) .inl:RP (r::(X++F13)) w27 x D' M').frame0 f19
   have hSQ:∀ b∈r::(X++F13),b<w19.heap.size:=fun b hb=>(List.mem_cons.1 hb).elim (fun e=>by rw [e]; exact qab ((hoz.frame0 f19).at (i:=0) rfl)) (h19.lt b)
   refine qlp (S:=r::(X++F13)) (l:=a.all) hrQ hSQ hM'.fresh hM'.free fun x5 w25 hp25 f25=>?_
   have f1325:Fr [] w13 w25:=(((Fr.refl [] w13).drew.trans hoz.fr).trans f19).trans f25
   refine qbb h13 f1325 (((hoz.frame0 f19).frame0 f25).at (i:=0) rfl) (by rw [e27]; exact ((Fr.refl [] w13).drew).size) hp25 fun w35 h35 f35=>?_
   exact fin h35 f35
 have h0:¬ a.act%12=0:=by simpa using hc0
 refine qaa (fun hc=>?_) (fun hc1=>?_)
 ·have h1:a.act%12=1:=by simpa using hc
  rw [show pageM D D' M M' a=(decide ((putV M a.n a.kind a.all).1=(putV M' a.n a.kind a.all).1),(putV M a.n a.kind a.all).2,(putV M' a.n a.kind a.all).2) from (if_neg h0).trans (if_pos h1)] at kk
  subst ek
  subst en
  refine qac ?_
  refine qae (c:=.ptr) (off:=0+1) h2d.cell (some ⟨pb,0,none⟩) qck ?_
  refine Own.ld (c:=.int .u32) hod 0 rfl a.n rfl ?_
  refine Own.ld (c:=.int .u8) hod 0 rfl a.kind rfl ?_
  refine Own.ldA (cl:=opCs) hod 0 rfl (o0,a.n,a.kind,o3,o4,o5) rfl ?_
  refine qct (o:=(o0,a.n,a.kind,o3,o4,o5)) ok2d hl fun s8 B8 w9 b8 f9 n8=>?_
  have ho9:=hod.frame0 f9
  have h9:=h2d.frame0 f9
  refine qa9 (ho9.cell 0 rfl rfl) (ho9.cell 0 rfl rfl) (cellP h9.cell) ?_
  have hf2:=f2.size
  have away:∀ b∈B8,b∉X++F:=fun b hb hm=>by have:=h.lt b hm; have:w2.heap.size<=b:=n8 b hb; omega
  refine quZ h9.pager (Buf.rds qau b8 away) (by omega) fun w13 hp13 f13=>?_
  have n13:∀ b∈F,b∈F\/w9.heap.size<=b:=fun b hb=>.inl hb
  have h13:=h9.real hp13 (qsV M a.n a.kind a.all) f13 n13
  have ho13:=(ho9.frame f13 (fun b hb=>.inl hb) (sepO hr1)).drew
  have h13d:=h13.frame0 (Fr.refl [] w13).drew
  have f09:Fr [] w w9:=(f2.trans (Fr.refl [] w2).drew).trans f9
  have ok13:OpOk (X++F) w13.drew (o0,a.n,a.kind,o3,o4,o5) a:=((hop.frame0 f09).frame (S':=X++F) (f13.mono fun b hb _=>List.mem_append_right _ hb) (fun b hb=>.inl hb)).frame0 (Fr.refl [] w13).drew
  have fin:∀ {x5:RV} {w35:World},Pair w35 bb dbk pb FD X F x5 D (putV M a.n a.kind a.all).2 D' (putV M' a.n a.kind a.all).2 k m wv t->Fr [bb] w13 w35->K ((putV M a.n a.kind a.all).1==(putV M' a.n a.kind a.all).1) w35:=by
   intro x5 w35 h35 f35
   exact kk F x5 w35 h35 ((f09.mono fun b hb=>nomatch hb).trans ((f13.mono fun b hb _=>List.mem_cons_of_mem _ hb).trans (f35.mono fun b hb _=>by rw [List.mem_singleton.1 hb]; simp))) fun b hb=>.inl hb
  refine ⟨?_,?_,?_⟩
  ·refine qac ?_
   refine qas (off:=0+2) h13d.cell (refV x) l64 bvx ?_
   refine Own.ld (c:=.int .u32) ho13 0 rfl a.n rfl ?_
   refine Own.ld (c:=.int .u8) ho13 0 rfl a.kind rfl ?_
   refine Own.ldA (cl:=opCs) ho13 0 rfl (o0,a.n,a.kind,o3,o4,o5) rfl ?_
   refine qct (o:=(o0,a.n,a.kind,o3,o4,o5)) ok13 hl fun s18 B18 w19 b18 f19 n18=>?_
   have ho19:=ho13.frame0 f19
   have h19:=h13d.frame0 f19
   have rd18:=Buf.rds (S:=[]) qau b18 (fun b hb hm=>nomatch hm)
   refine qa9 (ho19.cell 0 rfl rfl) (ho19.cell 0 rfl rfl) (cellsX h19.cell) ?_
   refine qa4 (S:=[]) rd18 hBa ?_
   refine qln (S:=X++F) (l:=a.all) h19.ref h19.lt hM'.fresh fun x5 w25 hp25 f25=>?_
   have ho25:=ho19.frame0 f25
   have h25:=h19.frame0 f25
   refine Own.newZ (Own.start [] w25) qbh fun r w27 e27 hoz=>?_
   have ho27:=ho25.frame0 hoz.fr
   have h27:=h25.frame0 hoz.fr
   refine qnV (qco (S:=[]) (rd18.frame0 (f25.trans hoz.fr)) hBa) (cellsO (ho27.at (i:=0) rfl)) (ho27.cell 0 rfl rfl) (ho27.cell 0 rfl rfl) (cellsX h27.cell) ?_
   have f1327:Fr [] w13 w27:=(((Fr.refl [] w13).drew.trans f19).trans f25).trans hoz.fr
   refine qbb h13 f1327 (hoz.at (i:=0) rfl) (by rw [e27]; exact (((Fr.refl [] w13).drew.trans f19).trans f25).size) (hp25.frame (hoz.fr.mono fun b hb=>nomatch hb) fun b hb=>(List.mem_cons.1 hb).elim (fun e=>.inr (by rw [e,e27]; exact Nat.le_refl _)) .inl) fun w35 h35 f35=>?_
   exact fin h35 f35
  ·refine qac ?_
   refine qas (off:=0+2) h13d.cell (refV x) l64 bvx ?_
   refine Own.ld (c:=.int .u32) ho13 0 rfl a.n rfl ?_
   refine Own.ld (c:=.int .u8) ho13 0 rfl a.kind rfl ?_
   refine Own.ldA (cl:=opCs) ho13 0 rfl (o0,a.n,a.kind,o3,o4,o5) rfl ?_
   refine qct (o:=(o0,a.n,a.kind,o3,o4,o5)) ok13 hl fun s18 B18 w19 b18 f19 n18=>?_
   have ho19:=ho13.frame0 f19
   have h19:=h13d.frame0 f19
   have rd18:=Buf.rds (S:=[]) qau b18 (fun b hb hm=>nomatch hm)
   refine qa9 (ho19.cell 0 rfl rfl) (ho19.cell 0 rfl rfl) (cellsX h19.cell) ?_
   refine qa4 (S:=[]) rd18 hBa ?_
   refine Own.newZ (Own.start [] w19) qbh fun r w27 e27 hoz=>?_
   have ho27:=ho19.frame0 hoz.fr
   have h27:=h19.frame0 hoz.fr
   refine qnV (qco (S:=[]) (rd18.frame0 hoz.fr) hBa) (cellsO (ho27.at (i:=0) rfl)) (ho27.cell 0 rfl rfl) (ho27.cell 0 rfl rfl) (cellsX h27.cell) ?_
   have hrQ:RP (r::(X++F)) w27 x D' M':=h19.ref.frame (hoz.fr.mono fun b hb=>nomatch hb) fun b hb=>(List.mem_cons.1 hb).elim (fun e=>.inr (by rw [e,e27]; exact Nat.le_refl _)) .inl
   have hSQ:∀ b∈r::(X++F),b<w27.heap.size:=fun b hb=>(List.mem_cons.1 hb).elim (fun e=>by rw [e]; exact qab (hoz.at (i:=0) rfl)) (h27.lt b)
   refine qln (S:=r::(X++F)) (l:=a.all) hrQ hSQ hM'.fresh fun x5 w25 hp25 f25=>?_
   have f1325:Fr [] w13 w25:=(((Fr.refl [] w13).drew.trans f19).trans hoz.fr).trans f25
   refine qbb h13 f1325 ((hoz.frame0 f25).at (i:=0) rfl) (by rw [e27]; exact ((Fr.refl [] w13).drew.trans f19).size) hp25 fun w35 h35 f35=>?_
   exact fin h35 f35
  ·refine qac ?_
   refine qas (off:=0+2) h13d.cell (refV x) l64 bvx ?_
   refine Own.ld (c:=.int .u32) ho13 0 rfl a.n rfl ?_
   refine Own.ld (c:=.int .u8) ho13 0 rfl a.kind rfl ?_
   refine Own.ldA (cl:=opCs) ho13 0 rfl (o0,a.n,a.kind,o3,o4,o5) rfl ?_
   refine Own.newZ (Own.start [] w13.drew) qbh fun r w27 e27 hoz=>?_
   have ho27:=ho13.frame0 hoz.fr
   have h27:=h13d.frame0 hoz.fr
   have ok27:=ok13.frame0 hoz.fr
   refine qgo (cellsO (ho27.at (i:=0) rfl)) (ho27.cell 0 rfl rfl) (ho27.cell 0 rfl rfl) (cellsX h27.cell) ?_
   refine qct (o:=(o0,a.n,a.kind,o3,o4,o5)) ok27 hl fun s18 B18 w19 b18 f19 n18=>?_
   have ho19:=ho27.frame0 f19
   have h19:=h27.frame0 f19
   have rd18:=Buf.rds (S:=[]) qau b18 (fun b hb hm=>nomatch hm)
   refine qa9 (ho19.cell 0 rfl rfl) (ho19.cell 0 rfl rfl) (cellsX h19.cell) ?_
   refine qa4 (S:=[]) rd18 hBa ?_
   have hrQ:RP (r::(X++F)) w19 x D' M':=(h13d.ref.frame (hoz.fr.mono fun b hb=>nomatch hb) fun b hb=>(List.mem_cons.1 hb).elim (fun e=>.inr (by rw [e,e27]; exact Nat.le_refl _)) .inl:RP (r::(X++F)) w27 x D' M').frame0 f19
   have hSQ:∀ b∈r::(X++F),b<w19.heap.size:=fun b hb=>(List.mem_cons.1 hb).elim (fun e=>by rw [e]; exact qab ((hoz.frame0 f19).at (i:=0) rfl)) (h19.lt b)
   refine qln (S:=r::(X++F)) (l:=a.all) hrQ hSQ hM'.fresh fun x5 w25 hp25 f25=>?_
   have f1325:Fr [] w13 w25:=(((Fr.refl [] w13).drew.trans hoz.fr).trans f19).trans f25
   refine qbb h13 f1325 (((hoz.frame0 f19).frame0 f25).at (i:=0) rfl) (by rw [e27]; exact ((Fr.refl [] w13).drew).size) hp25 fun w35 h35 f35=>?_
   exact fin h35 f35
 have h1:¬ a.act%12=1:=by simpa using hc1
 refine qaa (fun hc=>?_) (fun hc2=>?_)
 ·have h2':a.act%12=2:=by simpa using hc
  rw [show pageM D D' M M' a=(decide ((dropV M a.n).1=(dropV M' a.n).1),(dropV M a.n).2,(dropV M' a.n).2) from (if_neg h0).trans ((if_neg h1).trans (if_pos h2'))] at kk
  subst en
  refine qac ?_
  refine qae (c:=.ptr) (off:=0+1) h2d.cell (some ⟨pb,0,none⟩) qck ?_
  refine Own.ld (c:=.int .u32) hod 0 rfl a.n rfl ?_
  refine quA h2d.pager (Nat.le_trans hM.lists (by decide)) (Nat.le_trans hM.free (by decide)) (Nat.le_trans hM.deferred (by decide)) fun F13 w13 hp13 f13 n13=>?_
  have h13:=h2d.real hp13 (qrE M a.n) f13 n13
  have ho13:=(hod.frame f13 (fun b hb=>.inl hb) (sepO hr1)).drew
  have h13d:=h13.frame0 (Fr.refl [] w13).drew
  have f09:Fr [] w w2.drew:=f2.trans (Fr.refl [] w2).drew
  have fin:∀ {x5:RV} {w35:World},Pair w35 bb dbk pb FD X F13 x5 D (dropV M a.n).2 D' (dropV M' a.n).2 k m wv t->Fr [bb] w13 w35->K ((dropV M a.n).1==(dropV M' a.n).1) w35:=by
   intro x5 w35 h35 f35
   exact kk F13 x5 w35 h35 ((f09.mono fun b hb=>nomatch hb).trans ((f13.mono fun b hb _=>List.mem_cons_of_mem _ hb).trans (f35.mono fun b hb _=>by rw [List.mem_singleton.1 hb]; simp))) fun b hb=>(n13 b hb).imp id fun h=>Nat.le_trans f09.size h
  refine ⟨?_,?_⟩
  ·refine qac ?_
   refine qas (off:=0+2) h13d.cell (refV x) l64 bvx ?_
   refine Own.ld (c:=.int .u32) ho13 0 rfl a.n rfl ?_
   refine qn9 (S:=X++F13) h13d.ref h13d.lt hM'.lists hM'.free hM'.deferred hM'.fresh hM'.freeS hM'.defS fun x5 w25 hp25 f25=>?_
   have ho25:=ho13.frame0 f25
   have h25:=h13d.frame0 f25
   refine Own.newZ (Own.start [] w25) qbh fun r w27 e27 hoz=>?_
   have ho27:=ho25.frame0 hoz.fr
   have h27:=h25.frame0 hoz.fr
   refine qaO (ho27.cell 0 rfl rfl) (cellsX h27.cell) ?_
   have f1325:Fr [] w13 w25:=(Fr.refl [] w13).drew.trans f25
   refine qbb h13 (f1325.trans hoz.fr) (hoz.at (i:=0) rfl) (by rw [e27]; exact f1325.size) (hp25.frame (hoz.fr.mono fun b hb=>nomatch hb) fun b hb=>(List.mem_cons.1 hb).elim (fun e=>.inr (by rw [e,e27]; exact Nat.le_refl _)) .inl) fun w35 h35 f35=>?_
   exact fin h35 f35
  ·refine qac ?_
   refine qas (off:=0+2) h13d.cell (refV x) l64 bvx ?_
   refine Own.ld (c:=.int .u32) ho13 0 rfl a.n rfl ?_
   refine Own.newZ (Own.start [] w13.drew) qbh fun r w27 e27 hoz=>?_
   have ho27:=ho13.frame0 hoz.fr
   have h27:=h13d.frame0 hoz.fr
   refine qaO (ho27.cell 0 rfl rfl) (cellsX h27.cell) ?_
   have hrQ:RP (r::(X++F13)) w27 x D' M':=h13d.ref.frame (hoz.fr.mono fun b hb=>nomatch hb) fun b hb=>(List.mem_cons.1 hb).elim (fun e=>.inr (by rw [e,e27]; exact Nat.le_refl _)) .inl
   have hSQ:∀ b∈r::(X++F13),b<w27.heap.size:=fun b hb=>(List.mem_cons.1 hb).elim (fun e=>by rw [e]; exact qab (hoz.at (i:=0) rfl)) (h27.lt b)
   refine qn9 (S:=r::(X++F13)) hrQ hSQ hM'.lists hM'.free hM'.deferred hM'.fresh hM'.freeS hM'.defS fun x5 w25 hp25 f25=>?_
   have f1325:Fr [] w13 w25:=((Fr.refl [] w13).drew.trans hoz.fr).trans f25
   refine qbb h13 f1325 ((hoz.frame0 f25).at (i:=0) rfl) (by rw [e27]; exact ((Fr.refl [] w13).drew).size) hp25 fun w35 h35 f35=>?_
   exact fin h35 f35
 have h2':¬ a.act%12=2:=by simpa using hc2
 refine qaa (fun hc=>?_) (fun hc3=>?_)
 ·have h3':a.act%12=3:=by simpa using hc
  rw [show pageM D D' M M' a=(decide (pagerReadM D M a.n=pagerReadM D' M' a.n),M,M') from (if_neg h0).trans ((if_neg h1).trans ((if_neg h2').trans (if_pos h3')))] at kk
  subst en
  refine qac ?_
  refine qae (c:=.ptr) (off:=0+1) h2d.cell (some ⟨pb,0,none⟩) qck ?_
  refine Own.ld (c:=.int .u32) hod 0 rfl a.n rfl ?_
  have hv2:Hv w2.drew:=(hv.frame0 f2).frame0 (Fr.refl [] w2).drew
  refine qoa h2d.disk h2d.lim h2d.pager hv2 hnu (Nat.le_trans hM.lists (by decide)) hM.body fun s13 w13 rd13 f13=>?_
  have h13:=h2d.frame0 f13
  have ho13:=(hod.frame0 f13).drew
  have h13d:=h13.frame0 (Fr.refl [] w13).drew
  refine qac ?_
  refine qas (off:=0+2) h13d.cell (refV x) l64 bvx ?_
  refine Own.ld (c:=.int .u32) ho13 0 rfl a.n rfl ?_
  refine qsL (S:=X++F) h13d.ref hD' hnu hM'.lists hM'.free hM'.deferred hM'.fresh fun w25 f25=>?_
  have f025:Fr [] w w25:=(((f2.trans (Fr.refl [] w2).drew).trans f13).trans (Fr.refl [] w13).drew).trans f25
  have hK:=kk F x w25 (h.frame0 f025) (f025.mono fun b hb=>nomatch hb) fun b hb=>.inl hb
  have hBr:=qg6 h.lim.ok hM.bytes a.n
  have hBr':=qg6 hD' hM'.bytes a.n
  refine qaa (fun hc=>?_) (fun hc=>?_)
  ·have e1:(pagerReadM D M a.n).1=(pagerReadM D' M' a.n).1:=by simpa using hc
   refine qa4 (S:=[]) ((rd13 [] (fun b hb=>nomatch hb)).frame0 ((Fr.refl [] w13).drew.trans f25)) hBr ?_
   rw [qmF hBr hBr']
   refine qaa (fun hc=>?_) (fun hc=>?_)
   ·have e2:(pagerReadM D M a.n).2.1=(pagerReadM D' M' a.n).2.1:=of_decide_eq_true hc
    rw [show ((pagerReadM D M a.n).2.2==(pagerReadM D' M' a.n).2.2)=decide (pagerReadM D M a.n=pagerReadM D' M' a.n) from by
     by_cases e3:(pagerReadM D M a.n).2.2=(pagerReadM D' M' a.n).2.2
     ·rw [decide_eq_true (Prod.ext e1 (Prod.ext e2 e3)),beq_iff_eq]; exact e3
     ·rw [decide_eq_false (fun e=>e3 (by rw [e])),beq_eq_false_iff_ne]; exact e3]
    exact hK
   ·have e2:=of_decide_eq_false hc
    rw [decide_eq_false (fun e=>e2 (by rw [e]))] at hK
    exact hK
  ·have e1:¬ (pagerReadM D M a.n).1=(pagerReadM D' M' a.n).1:=by simpa using hc
   rw [decide_eq_false (fun e=>e1 (by rw [e]))] at hK
   exact hK
 have h3':¬ a.act%12=3:=by simpa using hc3
 rw [show pageM D D' M M' a=(decide ((setRootM M (IntKind.wrap .i32 a.n) a.n a.kind a.long).1=(setRootM M' (IntKind.wrap .i32 a.n) a.n a.kind a.long).1),(setRootM M (IntKind.wrap .i32 a.n) a.n a.kind a.long).2,(setRootM M' (IntKind.wrap .i32 a.n) a.n a.kind a.long).2) from (if_neg h0).trans ((if_neg h1).trans ((if_neg h2').trans (if_neg h3')))] at kk
 subst en
 subst ek
 subst el
 refine Own.ld (c:=.int .u32) ho 0 rfl a.n rfl ?_
 refine Own.ld (c:=.int .u8) ho 0 rfl a.kind rfl ?_
 refine Own.ld (c:=.int .u16) ho 0 rfl a.long rfl ?_
 rw [qaJ a.kind (by omega),qaJ a.long (by omega)]
 refine Own.newSt ho (cs':=#[.int .u32 a.n,.int .u32 a.kind,.int .u32 a.long]) rfl rfl (Nat.le_of_ble_eq_true rfl) fun rr w3 e3 ho3 f3=>?_
 have h3:=h2.frame0 f3
 have h3d:=h3.frame0 (Fr.refl [] w3).drew
 have ho3d:=ho3.drew
 have hr2:∀ p∈[(rr,Obj.cells #[.int .u32 a.n,.int .u32 a.kind,.int .u32 a.long] 42 (0,0)),(r1,Obj.cells (opA (o0,a.n,a.kind,o3,a.long,o5)) OPT (0,0))],w.heap.size<=p.1:=fun p hp=>by
  have:=f2.size
  simp only [List.mem_cons,List.not_mem_nil,or_false] at hp
  rcases hp with rfl | rfl
  ·show w.heap.size<=rr; omega
  ·show w.heap.size<=r1; omega
 have hw32:IntKind.wrap .i64 (IntKind.wrap .i32 a.n)=IntKind.wrap .i32 a.n:=wi' _ (by have:=qm0 a.n; omega)
 have cellsR:∀ {w':World},w'.heap[rr]?=some (Obj.cells #[.int .u32 a.n,.int .u32 a.kind,.int .u32 a.long] 42 (0,0))->cellsAt w' ⟨rr,0,none⟩ 0 (HL.mk [Cell.int .u32,Cell.int .u32,Cell.int .u32] (a.n,a.kind,a.long)):=fun hc=>qaK hc _ _ 0 rfl
 refine qac ?_
 refine qae (c:=.ptr) (off:=0+1) h3d.cell (some ⟨pb,0,none⟩) qck ?_
 refine Own.ld (c:=.int .u32) ho3d 1 rfl a.n rfl ?_
 refine Own.ldA (cl:=[Cell.int .u32,Cell.int .u32,Cell.int .u32]) ho3d 0 rfl (a.n,a.kind,a.long) rfl ?_
 rw [hw32]
 refine qqD h3d.pager fun w13 hp13 f13=>?_
 have n13:∀ b∈F,b∈F\/w3.drew.heap.size<=b:=fun b hb=>.inl hb
 have h13:=h3d.real hp13 (qoy M _ _ _ _) f13 n13
 have ho13:=(ho3d.frame f13 (fun b hb=>.inl hb) (sepO hr2)).drew
 have h13d:=h13.frame0 (Fr.refl [] w13).drew
 have f09:Fr [] w w3.drew:=(f2.trans f3).drew
 have fin:∀ {x5:RV} {w35:World},Pair w35 bb dbk pb FD X F x5 D (setRootM M (IntKind.wrap .i32 a.n) a.n a.kind a.long).2 D' (setRootM M' (IntKind.wrap .i32 a.n) a.n a.kind a.long).2 k m wv t->Fr [bb] w13 w35->K ((setRootM M (IntKind.wrap .i32 a.n) a.n a.kind a.long).1==(setRootM M' (IntKind.wrap .i32 a.n) a.n a.kind a.long).1) w35:=by
  intro x5 w35 h35 f35
  exact kk F x5 w35 h35 ((f09.mono fun b hb=>nomatch hb).trans ((f13.mono fun b hb _=>List.mem_cons_of_mem _ hb).trans (f35.mono fun b hb _=>by rw [List.mem_singleton.1 hb]; simp))) fun b hb=>.inl hb
 refine ⟨?_,?_⟩
 ·refine qac ?_
  refine qas (off:=0+2) h13d.cell (refV x) l64 bvx ?_
  refine Own.ld (c:=.int .u32) ho13 1 rfl a.n rfl ?_
  refine Own.ldA (cl:=[Cell.int .u32,Cell.int .u32,Cell.int .u32]) ho13 0 rfl (a.n,a.kind,a.long) rfl ?_
  rw [hw32]
  refine qk6 (S:=X++F) h13d.ref fun x5 w25 hp25 f25=>?_
  have ho25:=ho13.frame0 f25
  have h25:=h13d.frame0 f25
  refine Own.newZ (Own.start [] w25) qbh fun r w27 e27 hoz=>?_
  have ho27:=ho25.frame0 hoz.fr
  have h27:=h25.frame0 hoz.fr
  refine qa9 (cellsR (ho27.at (i:=0) rfl)) (ho27.cell 1 rfl rfl) (cellsX h27.cell) ?_
  have f1325:Fr [] w13 w25:=(Fr.refl [] w13).drew.trans f25
  refine qbb h13 (f1325.trans hoz.fr) (hoz.at (i:=0) rfl) (by rw [e27]; exact f1325.size) (hp25.frame (hoz.fr.mono fun b hb=>nomatch hb) fun b hb=>(List.mem_cons.1 hb).elim (fun e=>.inr (by rw [e,e27]; exact Nat.le_refl _)) .inl) fun w35 h35 f35=>?_
  exact fin h35 f35
 ·refine qac ?_
  refine qas (off:=0+2) h13d.cell (refV x) l64 bvx ?_
  refine Own.ld (c:=.int .u32) ho13 1 rfl a.n rfl ?_
  refine Own.ldA (cl:=[Cell.int .u32,Cell.int .u32,Cell.int .u32]) ho13 0 rfl (a.n,a.kind,a.long) rfl ?_
  refine Own.newZ (Own.start [] w13.drew) qbh fun r w27 e27 hoz=>?_
  have ho27:=ho13.frame0 hoz.fr
  have h27:=h13d.frame0 hoz.fr
  refine qa9 (cellsR (ho27.at (i:=0) rfl)) (ho27.cell 1 rfl rfl) (cellsX h27.cell) ?_
  have hrQ:RP (r::(X++F)) w27 x D' M':=h13d.ref.frame (hoz.fr.mono fun b hb=>nomatch hb) fun b hb=>(List.mem_cons.1 hb).elim (fun e=>.inr (by rw [e,e27]; exact Nat.le_refl _)) .inl
  rw [hw32]
  refine qk6 (S:=r::(X++F)) hrQ fun x5 w25 hp25 f25=>?_
  have f1325:Fr [] w13 w25:=((Fr.refl [] w13).drew.trans hoz.fr).trans f25
  refine qbb h13 f1325 ((hoz.frame0 f25).at (i:=0) rfl) (by rw [e27]; exact ((Fr.refl [] w13).drew).size) hp25 fun w35 h35 f35=>?_
  exact fin h35 f35
end
end Go.Proofs.YtmbcedengdoamaaGreatDoor
end
section
namespace Go.Proofs.YtmbcedengdoamaaGreatDoor
open Go.ChangeShapes Go.WideShapes Go.ChangeAt Go.RowKit Go.Pt
open Go
set_option linter.unusedVariables false
theorem qwn:fieldT Tryz.prog OPT 3=some 22:=by kernel_rfl
theorem qwj:fieldT Tryz.prog OPT 5=some 40:=by kernel_rfl
theorem qu6 {H:Type} {enc:TypeId×Value->H} {W:World} {base:Nat} {spare:Nat->Bool} {held:Bool} {n:Nat} {s:Sl} {y:DataW H×List MemPlace} (h:DataW.trod enc Tryz.prog W base spare held n 40 [.slice s.a s.len s.cap]=some y):∃ l,Rds encLoss 2 [] W s l:=by
 obtain ⟨l,g,_⟩:=qjV (P:=Tryz.prog) (t:=40) (e:=136) (s:=s) (k:=2) (encB:=HL.mk [Cell.int .i64,Cell.int .i64]) (by kernel_rfl) (by kernel_rfl) (by decide) (qnw (cs:=[Cell.int .i64,Cell.int .i64]) (by kernel_rfl)) h
 exact ⟨l,g⟩
theorem qwc {H:Type} {enc:TypeId×Value->H} {W:World} {base:Nat} {spare:Nat->Bool} {held:Bool} {x:OpC}
  (h:HFit opCs x/\∀ (i:Nat) v,(HL.mk opCs x)[i]?=some v->∃ u n y,fieldT Tryz.prog OPT i=some u/\DataW.trod enc Tryz.prog W base spare held n u [v]=some y):∃ a,OpOk [] W x a:=by
 obtain ⟨o0,o1,o2,o3,o4,o5⟩:=x
 obtain ⟨⟨q0,q1,q2,q3,q4,q5⟩,hf⟩:=h
 obtain ⟨u3,n3,y3,hu3,ht3⟩:=hf 3 (.slice o3.a o3.len o3.cap) rfl
 obtain rfl:=Option.some.inj (qwn.symm.trans hu3)
 obtain ⟨u5,n5,y5,hu5,ht5⟩:=hf 5 (.slice o5.a o5.len o5.cap) rfl
 obtain rfl:=Option.some.inj (qwj.symm.trans hu5)
 obtain ⟨l3,g3,e3⟩:=qjV (P:=Tryz.prog) (t:=22) (e:=5) (s:=o3) (k:=1) (encB:=fun n=>[Value.int .u8 n]) (by kernel_rfl) (by kernel_rfl) (by decide) (qud (k:=.u8) (by kernel_rfl)) ht3
 obtain ⟨l5,g5⟩:=qu6 ht5
 exact ⟨⟨o0,o1,o2,l3,o4,l5⟩,rfl,rfl,rfl,g3,rfl,g5,qoD q0,qvP q1,qoD q2,qvU q4,fun z hz=>qoD (e3 z hz)⟩
end Go.Proofs.YtmbcedengdoamaaGreatDoor
end
section
set_option linter.unusedVariables false
set_option linter.unusedSimpArgs false
namespace Go.Proofs.YtmbcedengdoamaaGreatDoor
open Go Go.Pt
attribute [local irreducible] ld ldA ldV fld fldA newZ st new idx idxS idxA slc slcS slcP mkS chk nn call callV inv run runQ runU join loop held ext rng undefer s2a nxt ent IntKind.wrap
theorem qu0 {w:World} {n:Nat} {K:RDv×Int->World->Prop} (h8:8<=n) (h4:n<=4096)
  (hk:∀ d w',(∀ G:List Nat,(∀ b∈G,b<w.heap.size)->RD G w' d (newM n))->Fr [] w w'->K (d,0) w') :
  call Tryz.prog 65 [.int .i64 n] [.agg dC,.one (.int .i64)] w K:=by
 refine qhG ?_
 unfold qeB
 refine Own.new' (Own.start [] w) fun r1 w1 e1 f1 ho=>?_
 refine qaf (fun b w'=>b=false/\w'=w1) ?_ ?_
 ·refine cond_false (decide_eq_false (by omega)) ?_
  exact ⟨decide_eq_false (by omega),rfl⟩
 rintro b w2 ⟨rfl,rfl⟩
 refine cond_false rfl ?_
 refine Own.mk1 (Own.start [] w2) (by decide) (by decide) (by decide) (by decide) fun b3 w3 e3 ho3b=>?_
 have f3:=ho3b.fr
 have hb:=ho3b.at (i:=0) rfl
 have hz:(512:Int).toNat=512:=rfl
 rw [hz] at hb ⊢
 rw [qfF] at hb
 have hrd:=qcv (S:=[]) (l:=zs 512) hb (by simp)
 rw [qaC] at hrd
 have ho3:=ho.frame0 f3
 refine Own.newSt (Own.start [] w3) (cs':=rdC (⟨none,0,0⟩,⟨none,0,0⟩,-1,false,0)) rfl rfl (Nat.le_of_ble_eq_true rfl) fun r10 w4 e4 ho4' f4=>?_
 have ho4:=Own.join0 ho3 ho4'
 have l4:=ho4.fr.size
 refine qag (fun x w'=>∃ (i:Nat) (s:Sl) (B:List Nat),x=i/\i<=n/\Own [] w w' [(r10,.cells (rdC (s,⟨none,0,0⟩,-1,false,0)) RDT (0,0)),(r1,.cells (rdC zD) RDT (0,0))]/\Fr [r10] w4 w'/\Buf encBlkS 1 w' s (List.replicate i Blk.zero) B/\∀ b∈B,w4.heap.size<=b) (fun x _=>((n:Int)-x).toNat)
  ⟨0,⟨none,0,0⟩,[],rfl,by omega,ho4,.refl _ _,.nil _ _ _,by simp⟩ ?_
 rintro x w5 ⟨i,s,B,rfl,hi,ho5,f5,hb5,nB⟩ X hX
 refine qaa (fun hc=>?_) (fun hc=>?_)
 ·have hil:i<n:=by have:=of_decide_eq_true hc; omega
  refine Own.ld (c:=.slice) ho5 0 rfl s rfl ?_
  have hrd5:RdB [] w5 ⟨some ⟨b3,0,none⟩,512,512⟩ (zs 512):=by
   have h34:=hrd.frame0 f4
   have l3:b3<w3.heap.size:=qab hb
   have a:RdB [r10] w4 ⟨some ⟨b3,0,none⟩,512,512⟩ (zs 512):=Rds.frame hrd (f4) fun b hb=>by rw [List.mem_singleton.1 hb,e4]; exact .inr (Nat.le_refl _)
   exact Rds.weak (a.frame f5 fun b hb=>.inl hb) fun b hb=>nomatch hb
  refine qa4 (S:=[]) (s:=⟨some ⟨b3,0,none⟩,512,512⟩) hrd5 (IsB.zs _) ?_
  have l10:r10<w4.heap.size:=qab (ho4'.at (i:=0) rfl)
  have l1:r1<w4.heap.size:=qab (ho4.at (i:=1) rfl)
  obtain ⟨i9,hi9,hz9,hsz9,hby9⟩:=quJ
  refine Buf.push (e:=9) (x:=Blk.zero) hb5 qba (qkK _) (by kernel_rfl) hi9 hz9 hsz9 rfl rfl (by rw [hby9,List.length_replicate]; omega) (by rw [List.length_replicate]; omega) fun s7 B7 w7 b7 f57 n7=>?_
  have ho7:=ho5.frame f57 (fun b hb=>.inr (Nat.le_trans l4 (nB b hb))) (fun p hp hb=>by
   have:=nB _ hb
   simp only [List.mem_cons,List.not_mem_nil,or_false] at hp
   rcases hp with rfl | rfl
   ·exact absurd this (Nat.not_le.2 l10)
   ·exact absurd this (Nat.not_le.2 l1))
  refine Own.st' ho7 0 rfl (rdC (s7,⟨none,0,0⟩,-1,false,0)) rfl rfl (Nat.le_of_ble_eq_true rfl) fun w8 ho8 f8=>?_
  have nB7:∀ b∈B7,w4.heap.size<=b:=fun b hb=>by
   rcases n7 b hb with h | h
   ·exact nB b h
   ·have:=f5.size; omega
  rw [wi' _ (by omega)]
  refine hX _ _ ⟨i+1,s7,B7,by simp,by omega,ho8,?_,?_,nB7⟩ (by omega)
  ·exact (f5.trans' f57 fun b hb=>.inr (nB b hb)).trans f8
  ·rw [List.replicate_succ']
   exact Buf.apart b7 nB7 l10 f8
 ·have hie:i=n:=by have:=of_decide_eq_false hc; omega
  subst hie
  refine Own.ldD ho5 0 rfl ?_
  refine Own.stD' (d:=zD) ho5 1 rfl fun w6 ho6 f6=>?_
  refine Own.ldD ho6 1 rfl ?_
  have l1:r1<w4.heap.size:=qab (ho4.at (i:=1) rfl)
  have b6:=Buf.apart hb5 nB l1 f6
  refine hk (s,⟨none,0,0⟩,-1,false,0) w6 (fun G hG=>⟨Buf.rds qba b6 fun b hb hm=>by have:=nB b hb; have:=hG b hm; omega,.nil _ _ _ _,rfl,rfl,rfl⟩) ho6.fr
end Go.Proofs.YtmbcedengdoamaaGreatDoor
end
section
set_option linter.unusedVariables false
set_option maxRecDepth 100000
namespace Go.Proofs.YtmbcedengdoamaaGreatDoor
open Go Go.Pt
def qdT (blocks:Int) (K:((Option Addr)×(Option Addr))->World->Prop) (w:World):Prop:=call Tryz.prog 38 ([.int .i64 blocks]) ([.one .ptr,.one (.int .i64)]) w fun (a:Option Addr×Int) b=>join (Bool) (fun c=>cond (!a.snd==0) (c true b) (cond (Option.isNone a.fst) (c true b) (call Tryz.prog 39 ([.pointer a.fst]) ([.one (.int .i64)]) b fun (d:Int) e=>c (!d==0) e))) fun (f:Bool) g=>cond f (K ((none,none)) g) (call Tryz.prog 24 ([.pointer a.fst]) ([.one .ptr,.one (.int .i64)]) g fun (h:Option Addr×Int) i=>cond (!h.snd==0) (K ((none,none)) i) (K ((a.fst,h.fst)) i))
def qiT:List Ann:=[.n,.n,.n,.j [(22,.one .bool)],.n,.n,.n,.n,.n,.n]
theorem qgQ {blocks w K} (hF:qdT blocks K w):call Tryz.prog 8 [.int .i64 blocks] [.one .ptr,.one .ptr] w K:=qad (an:=qiT) Tryz.func8 hF
def qdw  (K:Bool->World->Prop) (w:World):Prop:=call Tryz.prog 8 ([.int .i64 8]) ([.one .ptr,.one .ptr]) w fun (b:Option Addr×Option Addr) c=>join (Bool) (fun d=>cond (Option.isNone b.fst) (d true c) (cond (Option.isNone b.snd) (d true c) (call Tryz.prog 32 ([.pointer b.snd]) ([.one .slice]) c fun e f=>new (Obj.cells #[.int .u32 2] 29) f fun g h=>call Tryz.prog 31 ([.slice e.a e.len e.cap,.slice (some ⟨g,0,none⟩) 1 1]) ([.one .bool]) h fun (i:Bool) j=>cond (!i) (d true j) (call Tryz.prog 9 ([.pointer b.snd]) ([.one .slice]) j fun k l=>new (Obj.cells #[.int .u32 3,.int .u32 4,.int .u32 5,.int .u32 6,.int .u32 7] 29) l fun m n=>call Tryz.prog 31 ([.slice k.a k.len k.cap,.slice (some ⟨m,0,none⟩) 5 5]) ([.one .bool]) n fun (o:Bool) p=>d (!o) p)))) fun (q:Bool) r=>cond q (K false r) (new (Obj.cells #[.int .u8 120] 5) r fun s t=>run [.one .slice] ((convert 22 22 (.slice (some ⟨s,0,none⟩) 1 1)).run Tryz.prog t) fun u v=>call Tryz.prog 10 ([.pointer b.snd,.int .u8 3,.slice u.a u.len u.cap]) ([.one (.int .u32),.one (.int .i64)]) v fun (x:Int×Int) y=>call Tryz.prog 20 ([.pointer b.snd]) ([.one (.int .i64)]) y fun (z:Int) A=>cond (x.snd==0) (cond (x.fst==3) (cond (z==0) (call Tryz.prog 25 ([.pointer b.snd]) ([.one (.int .u64)]) A fun (B:Int) C=>cond (B==2) (call Tryz.prog 32 ([.pointer b.snd]) ([.one .slice]) C fun D E=>new (Obj.cells #[.int .u32 4] 29) E fun F G=>call Tryz.prog 31 ([.slice D.a D.len D.cap,.slice (some ⟨F,0,none⟩) 1 1]) ([.one .bool]) G fun (H:Bool) I=>cond H (call Tryz.prog 9 ([.pointer b.snd]) ([.one .slice]) I fun J L=>new (Obj.cells #[.int .u32 2,.int .u32 5,.int .u32 6,.int .u32 7] 29) L fun M N=>call Tryz.prog 31 ([.slice J.a J.len J.cap,.slice (some ⟨M,0,none⟩) 4 4]) ([.one .bool]) N fun (O:Bool) P=>K O P) (K false I)) (K false C)) (K false A)) (K false A)) (K false A))
def qhQ:List Ann:=[.n,.n,.n,.j [(29,.one .bool)],.n,.n,.n,.n]
theorem qgH {w K} (hF:qdw  K w):call Tryz.prog 12 [] [.one .bool] w K:=qad (an:=qhQ) Tryz.func12 hF
end Go.Proofs.YtmbcedengdoamaaGreatDoor
end
section
set_option linter.unusedVariables false
set_option linter.unusedSimpArgs false
namespace Go.Proofs.YtmbcedengdoamaaGreatDoor
open Go Go.Pt
attribute [local irreducible] ld ldA ldV fld fldA newZ st new idx idxS idxA slc slcS slcP mkS chk nn call callV inv run runQ runU join loop held ext rng undefer s2a nxt ent IntKind.wrap
theorem Lim.new {n:Nat} (h:n<=4096):Lim (newM n) 0:=⟨quM h,by simp [newM],by simp [newM]⟩
def pgs (n:Nat):List Int:=(allV n).take (needP (allV n).length)
def nums (n:Nat):List Int:=(allV n).drop (needP (allV n).length)
def madeM (n:Nat):PgM:=begunM (fmtSup n) (pgs n) (nums n) 1 false (nums n)
theorem qqZ {n:Nat} (h8:8<=n) (h4:n<=4096):(madeM n).Wf:=by
 have e:(fmtSup n).2.getD 0 0=n:=by show IntKind.wrap .u32 (n:Int)=_; exact qaJ _ (by omega)
 exact qlt (by rw [e]; exact qhM) (by rw [e]; omega) (qgv h8 h4).u32
structure Made (D:DiskM) (n:Nat):Prop where
 quiet:Quiet D
 size:D.size=n
 waits:D.waits=[]
 opens:Opens D (fmtSup n) (pgs n) (nums n)
 fmt:formatM (newM n)=(D,0)
 zero:view D 0=zs 512
theorem qo9 {w:World} {n:Nat} {K:Option Addr×Option Addr->World->Prop} (X:List Nat) (hXl:∀ b∈X,b<w.heap.size) (hv:Hv w) (h8:8<=n) (h4:n<=4096)
  (hk:∀ dbk pb FD F D w',DiskAt w' dbk FD D->Lim D 5000->PagerAt w' (FD++X) pb (dbOf dbk (madeM n)) F (madeM n)->Made D n->Fr [] w w'->(∀ b∈FD++F,w.heap.size<=b)->K (some ⟨dbk,0,none⟩,some ⟨pb,0,none⟩) w') :
  call Tryz.prog 8 [.int .i64 n] [.one .ptr,.one .ptr] w K:=by
 refine qgQ ?_
 unfold qdT
 refine qvc (fun h=>by omega) fun _ _ dbk FD w1 d1 f1 n1=>?_
 rw [Int.toNat_natCast] at d1
 obtain ⟨D',e1,q1,s1,wt1,o1,z1⟩:=qpR (qsg n) (qsR n) h8 h4
 have hv1:=hv.frame0 f1
 have hg:HG∉FD:=fun hm=>by have:=n1 _ hm; have:=hv.lt; omega
 have hsl:(newM n).safe.length=n:=by simp [newM]
 refine qaf (fun b w'=>b=false/\∃ F',DS dbk w1 FD w' F' D' (0+5000)) ?_ ?_
 ·refine cond_false rfl (cond_false rfl ?_)
  refine qrS d1 (Lim.new h4) (by decide) (by omega) hv1 hg fun w' F' d'=>?_
  rw [e1] at d' ⊢
  exact ⟨rfl,F',d'⟩
 rintro b w2 ⟨rfl,F2,d2⟩
 refine cond_false rfl ?_
 have hnew:∀ b∈F2,w.heap.size<=b:=fun b hb=>by
  rcases d2.nw b hb with h | h
  ·exact n1 b h
  ·exact Nat.le_trans f1.size h
 have hop:=o1.open
 refine qn8 (F2++X) (fun b hb=>(List.mem_append.1 hb).elim (d2.at_.lt b) fun hb=>Nat.lt_of_lt_of_le (hXl b hb) (Nat.le_trans f1.size d2.fr.size)) d2.at_ d2.lim.ok (d2.hv hv1 hg).1 (fun h=>by rw [hop] at h; cases h) fun pb F M w3 hM hp f3 n3=>?_
 rw [hop] at hM
 cases hM
 refine cond_false rfl ?_
 refine hk dbk pb F2 F D' w3 (d2.at_.frame0 f3) d2.lim hp ⟨q1,s1,wt1,o1,e1,z1⟩ ((f1.trans' d2.fr fun b hb=>.inr (n1 b hb)).trans' f3 (by simp)) fun b hb=>?_
 rcases List.mem_append.1 hb with hb | hb
 ·exact hnew b hb
 ·exact Nat.le_trans (Nat.le_trans f1.size d2.fr.size) (n3 b hb)
theorem qva {w:World} {n:Nat} {K:Option Addr×Option Addr->World->Prop} (hv:Hv w) (h8:8<=n) (h4:n<=4096)
  (hk:∀ dbk pb FD F D w',Both w' dbk pb FD F D (madeM n) 5000->Made D n->Fr [] w w'->(∀ b∈FD++F,w.heap.size<=b)->K (some ⟨dbk,0,none⟩,some ⟨pb,0,none⟩) w') :
  call Tryz.prog 8 [.int .i64 n] [.one .ptr,.one .ptr] w K:=
 qo9 [] (fun b hb=>nomatch hb) hv h8 h4 fun dbk pb FD F D w' h1 h2 h3=>hk dbk pb FD F D w' ⟨h1,h2,h3.weakX fun b hb=>List.mem_append_left _ hb⟩
theorem ql4 {S:List Nat} {w:World} {b:Nat} {T:TypeId} {fr:Nat×Nat} {l:List Int} (hb:w.heap[b]?=some (.cells (l.map (Value.int .u32)).toArray T fr)) (hS:b∉S):Rd S w ⟨some ⟨b,0,none⟩,l.length,l.length⟩ l:=by
 refine ⟨rfl,Nat.le_refl _,.inr ⟨b,0,_,T,fr,rfl,hb,hS,fun i x hx=>?_⟩⟩
 have hi:=(List.getElem?_eq_some_iff.1 hx).1
 rw [Nat.zero_add,Nat.mul_one]
 apply List.ext_getElem?
 intro j
 rw [List.getElem?_take,List.getElem?_drop]
 match j with
 | 0=>simp [hx]
 | j+1=>simp
theorem quV {w:World} {C:Array Value} {n c:Nat} {K:Sl->World->Prop} (hk:∀ b w',b=w.heap.size->Fr [] w w'->w'.heap[b]?=some (.cells C 5 (C.size,C.size+1))->K ⟨some ⟨b,0,none⟩,n,c⟩ w') :
  Pt.new (.cells C 5 (0,0)) w fun r w1=>Pt.run [Ty1.one Cell.slice] ((convert 22 22 (.slice (some ⟨r,0,none⟩) n c)).run Tryz.prog w1) K:=by
 refine Pt.qgV ?_
 refine qdz ⟨some ⟨w.heap.size,0,none⟩,n,c⟩ _ (Lib.run_convert_bytes_const (P:=Tryz.prog) w 22 5 C n c (by kernel_rfl) (by kernel_rfl)) ?_
 exact hk _ _ rfl ((Fr.refl [] w).alloc _) (by rw [qbq,if_pos rfl])
theorem qwm:pgs 8=[2]:=by decide
theorem qv9:nums 8=[3,4,5,6,7]:=by decide
theorem ql8 {w:World} {K:Bool->World->Prop} (hv:Hv w) (hk:∀ w',Fr [] w w'->K true w') :
  call Tryz.prog 12 [] [.one .bool] w K:=by
 refine qgH ?_
 unfold qdw
 refine qva (n:=8) hv (by decide) (by decide) fun dbk pb FD F D w1 hb hm f1 n1=>?_
 have hM:madeM 8=begunM (fmtSup 8) [2] [3,4,5,6,7] 1 false [3,4,5,6,7]:=by rw [madeM,qwm,qv9]
 have hfree:(madeM 8).free=[3,4,5,6,7]:=by rw [hM]; rfl
 have hlists:(madeM 8).lists=[2]:=by rw [hM]; rfl
 refine qaf (fun b w'=>b=false/\Fr [] w1 w') ?_ ?_
 ·refine cond_false rfl (cond_false rfl ?_)
  refine qjm hb.pager (by rw [hlists]; decide) fun s2 B2 w2 b2 f2 n2=>?_
  rw [hlists] at b2
  refine Own.new' (Own.start [] w2) fun r3 w3 e3 f3 ho3=>?_
  refine qhU (S:=[]) (S':=[]) (t:=⟨some ⟨r3,0,none⟩,1,1⟩) ((b2.frame0 f3).rds qat (by simp)) (ql4 (l:=[2]) (ho3.at (i:=0) rfl) (by simp)) (by decide) fun w4 s4=>?_
  refine cond_false rfl ?_
  have f14:=(f2.trans f3).trans (.of_same s4)
  refine qlB (hb.pager.frame0 f14) (by rw [hfree]; decide) fun s5 w5 t5 f5=>?_
  rw [hfree] at t5
  obtain ⟨B5,b5,n5⟩:=qd2 t5
  refine Own.new' (Own.start [] w5) fun r6 w6 e6 f6 ho6=>?_
  refine qhU (S:=[]) (S':=[]) (t:=⟨some ⟨r6,0,none⟩,5,5⟩) ((b5.frame0 f6).rds qat (by simp)) (ql4 (l:=[3,4,5,6,7]) (ho6.at (i:=0) rfl) (by simp)) (by decide) fun w7 s7=>?_
  exact ⟨rfl,((f14.trans f5).trans f6).trans (.of_same s7)⟩
 rintro b w2 ⟨rfl,f2⟩
 refine cond_false rfl ?_
 have hW:=qqZ (n:=8) (by decide) (by decide)
 refine quV fun r3 w3 e3 f3 ho3=>?_
 have hb3:=hb.frame0 (f2.trans f3)
 have hrd:RdB (FD++F) w3 ⟨some ⟨r3,0,none⟩,1,1⟩ [120]:=by
  have:=qd4 (S:=FD++F) (o:=0) (n:=1) (cap:=1) (L:=[120]) ho3 (by decide) (by decide) (fun hm=>by
   rcases List.mem_append.1 hm with h | h
   ·have:=hb.disk.lt r3 h; have:=f2.size; omega
   ·have:=hb.pager.lt r3 h; have:=f2.size; omega)
  exact this
 have hIsB:IsB [120]:=fun x hx=>by simp at hx; subst hx; decide
 have hmk:makeV (madeM 8) 3 [120]=((3,0),{ madeM 8 with free:=[4,5,6,7],fresh:=setL 3 (3,[120]) (madeM 8).fresh }):=by
  rw [makeV,if_neg (by rw [hM]; decide),if_neg (by decide),hfree]
 refine qo8 hb3.pager hrd (by decide) (by rw [hfree]; decide) fun F4 w4 hp4 f4 n4=>?_
 have hW2:=(qre (kind:=3) (body:=[120]) hW (by decide) hIsB).1
 rw [hmk] at hp4 hW2 ⊢
 have hM2:({ madeM 8 with free:=[4,5,6,7],fresh:=setL 3 (3,[120]) (madeM 8).fresh }:PgM)=⟨fmtSup 8,[2],[3,4,5,6,7],1,false,[4,5,6,7],[],[(3,3,[120])],(fmtSup 8).2.drop 3⟩:=by rw [hM]; rfl
 rw [hM2] at hp4 hW2
 generalize hMM:(⟨fmtSup 8,[2],[3,4,5,6,7],1,false,[4,5,6,7],[],[(3,3,[120])],(fmtSup 8).2.drop 3⟩:PgM)=M2 at hp4 hW2
 have hsepF:∀ b∈F,b∉FD:=fun b hb1 hb2=>hb.pager.sep b hb2 hb1
 have hd4:DiskAt w4 dbk FD D:=hb3.disk.frame f4 fun b hbf hbF=>hsepF b hbF hbf
 have hB4:Both w4 dbk pb FD F4 D M2 5000:=⟨hd4,hb.lim,by rw [dbOf,if_neg (by rw [<- hMM]; decide)]; exact hp4⟩
 have hFw:∀ b∈FD++F,b∉([]:List Nat)/\w.heap.size<=b:=fun b hb=>⟨by simp,n1 b hb⟩
 have hg:HG∉FD:=fun hm=>by have:=n1 _ (List.mem_append_left _ hm); have:=hv.lt; omega
 have hgF:HG∉F:=fun hm=>by have:=n1 _ (List.mem_append_right _ hm); have:=hv.lt; omega
 have f03:=(f1.trans f2).trans f3
 have hv4:Hv w4:=(hv.frame0 f03).frame f4 hgF
 have hplan:planM M2=some ([4],[2,5,6,7]):=by rw [<- hMM]; decide
 have hsup:M2.sup=fmtSup 8:=by rw [<- hMM]
 have hns:=qpA hW2 hplan (by rw [<- hMM]; rfl) (by rw [hsup]; exact ⟨by decide,by decide⟩)
 have hfl:=hm.quiet.flushed hW2 (by rw [hsup]; exact hm.opens.blocks) hm.opens.size.1 hplan hns.1
 have hcm:commitM D M2=(((flushM D M2.fresh [4] [2,5,6,7] (nextS M2 [4] [2,5,6,7])).1,begunM (nextS M2 [4] [2,5,6,7]) [4] [2,5,6,7] (M2.turn+1) false [2,5,6,7]),0):=by
  rw [commitM,if_neg (by rw [<- hMM]; decide),if_neg (by rw [<- hMM]; simp),hplan]
  exact if_neg (by rw [hfl.1]; simp)
 refine qrR hB4 hW2 (by decide) (by rw [<- hMM]; decide) hv4 hg fun FD5 F5 w5 hB5 t5=>?_
 rw [hcm] at hB5 ⊢
 refine cond_true rfl (cond_true rfl (cond_true rfl ?_))
 refine qvv hB5.pager ?_
 have hseq:(nextS M2 [4] [2,5,6,7]).1=2:=by rw [hns.2,hsup]; rfl
 refine cond_true (by show ((nextS M2 [4] [2,5,6,7]).1==2)=true; rw [hseq]; rfl) ?_
 have f05:Fr [] w w5:=(f03.trans' f4 fun b hb=>.inr (n1 b (List.mem_append_right _ hb))).trans' t5.1 fun b hb=>by
  rcases List.mem_append.1 hb with h | h
  ·exact .inr (n1 b (List.mem_append_left _ h))
  ·rcases n4 b h with h | h
   ·exact .inr (n1 b (List.mem_append_right _ h))
   ·exact .inr (Nat.le_trans f03.size h)
 refine qjm hB5.pager (by show [(4:Int)].length<=_; decide) fun s6 B6 w6 b6 f6 n6=>?_
 refine Own.new' (Own.start [] w6) fun r7 w7 e7 f7 ho7=>?_
 refine qhU (S:=[]) (S':=[]) (l:=[4]) (t:=⟨some ⟨r7,0,none⟩,1,1⟩) ((b6.frame0 f7).rds qat (by simp)) (ql4 (l:=[4]) (ho7.at (i:=0) rfl) (by simp)) (by decide) fun w8 s8=>?_
 refine cond_true rfl ?_
 have f58:=(f6.trans f7).trans (.of_same s8)
 refine qlB (hB5.pager.frame0 f58) (by show [(2:Int),5,6,7].length<=_; decide) fun s9 w9 t9 f9=>?_
 obtain ⟨B9,b9,n9⟩:=qd2 t9
 refine Own.new' (Own.start [] w9) fun r10 w10 e10 f10 ho10=>?_
 refine qhU (S:=[]) (S':=[]) (l:=[2,5,6,7]) (t:=⟨some ⟨r10,0,none⟩,4,4⟩) ((b9.frame0 f10).rds qat (by simp)) (ql4 (l:=[2,5,6,7]) (ho10.at (i:=0) rfl) (by simp)) (by decide) fun w11 s11=>?_
 exact hk w11 (((((f05.trans f58).trans f9).trans f10).trans (.of_same s11)))
section
structure Sim (M M':PgM):Prop where
 sup:M'.sup=M.sup
 lists:M'.lists=M.lists
 named:M'.named=M.named
 over:M'.over=M.over
 free:M'.free=M.free
 deferred:M'.deferred=M.deferred
 roots:M'.roots=M.roots
 perm:M'.fresh.Perm M.fresh
 sorted:(M'.fresh.map (·.1)).Pairwise (· < ·)
abbrev Fsh:=List (Int×Int×List Int)
theorem qc7 {L L':Fsh} (hp:L'.Perm L) (hn:(L.map (·.1)).Nodup) (n:Int):(look n L').map (·.2)=(look n L).map (·.2):=by
 have hn':(L'.map (·.1)).Nodup:=(hp.map (·.1)).nodup_iff.2 hn
 cases h:look n L with
 | some q=>
  obtain ⟨i,hi⟩:=qb2 (e:=(n,q.2)) hn' (hp.mem_iff.2 (qaI h).2)
  rw [hi]; rfl
 | none=>
  cases h':look n L' with
  | none=>rfl
  | some q=>
   have:=qbs.1 h
   exact absurd (List.mem_map_of_mem (f:=(·.1)) (hp.mem_iff.1 (qaI h').2)) this
theorem qqB {L L':Fsh} (hp:L'.Perm L) (hn:(L.map (·.1)).Nodup) (n:Int):(look n L').isNone=(look n L).isNone:=by
 have:=qc7 hp hn n
 cases h:look n L <;> cases h':look n L' <;> rw [h,h'] at this <;> simp_all
theorem qp5 {L:Fsh} {n:Int} {q:Nat×Int×List Int} (h:look n L=some q):L.Perm ((n,q.2)::delL n L):=by
 have h1:=(qaI h).1
 rw [delL,h]
 dsimp only
 have hi:=(List.getElem?_eq_some_iff.1 h1).1
 have he:=(List.getElem?_eq_some_iff.1 h1).2
 rw [List.eraseIdx_eq_take_drop_succ]
 have hs:L=L.take q.1++(n,q.2)::L.drop (q.1+1):=by rw [<- he,<- List.drop_eq_getElem_cons hi,List.take_append_drop]
 have hp:(L.take q.1++(n,q.2)::L.drop (q.1+1)).Perm ((n,q.2)::(L.take q.1++L.drop (q.1+1))):=List.perm_middle
 rw [<- hs] at hp
 exact hp
theorem qpb {L:Fsh} {n:Int} {v:Int×List Int} {q:Nat×Int×List Int} (h:look n L=some q):(setL n v L).Perm ((n,v)::delL n L):=by
 have h1:=(qaI h).1
 rw [delL,setL,h]
 dsimp only
 have hi:=(List.getElem?_eq_some_iff.1 h1).1
 rw [List.eraseIdx_eq_take_drop_succ,List.set_eq_take_append_cons_drop,if_pos hi]
 exact List.perm_middle
theorem qnY {L L':Fsh} (hp:L'.Perm L) (hn:(L.map (·.1)).Nodup) {n:Int}:(delL n L').Perm (delL n L):=by
 have hl:=qc7 hp hn n
 cases h:look n L with
 | none=>
  cases h':look n L' with
  | none=>rw [delL,delL,h,h']; exact hp
  | some q=>rw [h,h'] at hl; cases hl
 | some q=>
  cases h':look n L' with
  | none=>rw [h,h'] at hl; cases hl
  | some q'=>
   rw [h,h'] at hl
   have hq:q'.2=q.2:=Option.some.inj hl
   have a:=qp5 h
   have b:=qp5 h'
   rw [hq] at b
   exact List.Perm.cons_inv (b.symm.trans (hp.trans a))
theorem qs3 {L L':Fsh} (hp:L'.Perm L) (hn:(L.map (·.1)).Nodup) {n:Int} {v:Int×List Int}:(setL n v L').Perm (setL n v L):=by
 have hl:=qc7 hp hn n
 cases h:look n L with
 | none=>
  cases h':look n L' with
  | none=>rw [setL,setL,h,h']; exact hp.append_right _
  | some q=>rw [h,h'] at hl; cases hl
 | some q=>
  cases h':look n L' with
  | none=>rw [h,h'] at hl; cases hl
  | some q'=>exact (qpb h').trans (((qnY hp hn).cons _).trans (qpb h).symm)
theorem qjU {n:Int} {v:Int×List Int}:∀ L:Fsh,(insF n v L).Perm ((n,v)::L)
 | []=>.refl _
 | a::L=>by
  rw [insF]
  split
  ·exact .refl _
  ·exact ((qjU L).cons a).trans (.swap _ _ _)
theorem qk0 {n:Int} {v:Int×List Int}:∀ {L:Fsh},(L.map (·.1)).Pairwise (· < ·)->n∉L.map (·.1)->((insF n v L).map (·.1)).Pairwise (· < ·)
 | [],_,_=>by simp [insF]
 | a::L,h,hn=>by
  rw [List.map_cons,List.pairwise_cons] at h
  rw [List.map_cons,List.mem_cons,not_or] at hn
  rw [insF]
  split
  ·rename_i hgt
   rw [List.map_cons,List.map_cons,List.pairwise_cons,List.pairwise_cons]
   refine ⟨fun x hx=>?_,h⟩
   rcases List.mem_cons.1 hx with rfl | hx
   ·exact hgt
   ·have:=h.1 x hx; show n<x; omega
  ·rename_i hgt
   rw [List.map_cons,List.pairwise_cons]
   refine ⟨fun x hx=>?_,qk0 h.2 hn.2⟩
   have:=((qjU (n:=n) (v:=v) L).map (·.1)).mem_iff.1 hx
   rw [List.map_cons,List.mem_cons] at this
   rcases this with e | hx
   ·have h1:=hn.1; have e:x=n:=e; show a.1<x; omega
   ·exact h.1 x hx
section
variable {M M':PgM}
theorem Sim.used (h:Sim M M') (hW:M.Wf) (n:Int):usedV M' n=usedV M n:=by
 rw [usedV,usedV,h.sup,h.lists,h.free,h.deferred,qqB h.perm hW.keysNodup]
theorem Sim.make (h:Sim M M') (hW:M.Wf) (kd:Int) (l:List Int):(makeR M' kd l).1=(makeV M kd l).1/\Sim (makeV M kd l).2 (makeR M' kd l).2:=by
 unfold makeR makeV
 rw [h.over,h.free]
 split
 ·exact ⟨rfl,h⟩
 split
 ·exact ⟨rfl,h⟩
 cases hf:M.free with
 | nil=>exact ⟨rfl,h⟩
 | cons n r=>
  have hn:n∉M.fresh.map (·.1):=fun hm=>by
   have:=(List.nodup_append.1 hW.nodup).2.2 n (by rw [hf]; simp) n (List.mem_append_right _ (List.mem_append_right _ hm))
   exact this rfl
  have hn':n∉M'.fresh.map (·.1):=fun hm=>hn ((h.perm.map (·.1)).mem_iff.1 hm)
  refine ⟨rfl,⟨h.sup,h.lists,h.named,rfl,rfl,h.deferred,h.roots,?_,qk0 h.sorted hn'⟩⟩
  show (insF n (kd,l) M'.fresh).Perm (setL n (kd,l) M.fresh)
  rw [qlu hn]
  exact (qjU _).trans ((h.perm.cons _).trans (List.perm_append_comm (l₁:=[(n,kd,l)])))
theorem Sim.put (h:Sim M M') (hW:M.Wf) (n kd:Int) (l:List Int):(putV M' n kd l).1=(putV M n kd l).1/\Sim (putV M n kd l).2 (putV M' n kd l).2:=by
 have hl:=qc7 h.perm hW.keysNodup n
 unfold putV
 rw [h.over]
 split
 ·exact ⟨rfl,h⟩
 cases h1:look n M.fresh with
 | none=>
  cases h2:look n M'.fresh with
  | none=>exact ⟨rfl,h⟩
  | some q=>rw [h1,h2] at hl; cases hl
 | some q=>
  cases h2:look n M'.fresh with
  | none=>rw [h1,h2] at hl; cases hl
  | some q'=>
   dsimp only
   split
   ·exact ⟨rfl,h⟩
   ·refine ⟨rfl,⟨h.sup,h.lists,h.named,rfl,h.free,h.deferred,h.roots,qs3 h.perm hW.keysNodup,?_⟩⟩
    show ((setL n (kd,l) M'.fresh).map (·.1)).Pairwise (· < ·)
    rw [qjy (List.mem_map_of_mem (f:=(·.1)) (qaI h2).2)]
    exact h.sorted
theorem Sim.drop (h:Sim M M') (hW:M.Wf) (n:Int):(dropV M' n).1=(dropV M n).1/\Sim (dropV M n).2 (dropV M' n).2:=by
 have hl:=qc7 h.perm hW.keysNodup n
 have hu:=h.used hW n
 unfold dropV
 rw [h.over]
 split
 ·exact ⟨rfl,h⟩
 cases h1:look n M.fresh with
 | none=>
  cases h2:look n M'.fresh with
  | none=>
   dsimp only
   rw [hu]
   split
   ·exact ⟨rfl,⟨h.sup,h.lists,h.named,rfl,h.free,by show ins n M'.deferred=ins n M.deferred; rw [h.deferred],h.roots,h.perm,h.sorted⟩⟩
   ·exact ⟨rfl,h⟩
  | some q=>rw [h1,h2] at hl; cases hl
 | some q=>
  cases h2:look n M'.fresh with
  | none=>rw [h1,h2] at hl; cases hl
  | some q'=>
   refine ⟨rfl,⟨h.sup,h.lists,h.named,rfl,by show ins n M'.free=ins n M.free; rw [h.free],h.deferred,h.roots,qnY h.perm hW.keysNodup,?_⟩⟩
   show ((delL n M'.fresh).map (·.1)).Pairwise (· < ·)
   rw [delL,h2]
   dsimp only
   exact h.sorted.sublist ((List.eraseIdx_sublist _ _).map _)
theorem Sim.setRoot (h:Sim M M') (t a b c:Int):(setRootM M' t a b c).1=(setRootM M t a b c).1/\Sim (setRootM M t a b c).2 (setRootM M' t a b c).2:=by
 unfold setRootM
 rw [h.over,h.roots]
 split
 ·exact ⟨rfl,h⟩
 split
 ·exact ⟨rfl,h⟩
 ·exact ⟨rfl,⟨h.sup,h.lists,h.named,rfl,h.free,h.deferred,rfl,h.perm,h.sorted⟩⟩
theorem Sim.read (h:Sim M M') (hW:M.Wf) (D:DiskM) (n:Int):pagerReadM D M' n=pagerReadM D M n:=by
 have hl:=qc7 h.perm hW.keysNodup n
 unfold pagerReadM
 rw [h.over,h.used hW]
 split
 ·rfl
 cases h1:look n M.fresh with
 | none=>
  cases h2:look n M'.fresh with
  | none=>rfl
  | some q=>rw [h1,h2] at hl; cases hl
 | some q=>
  cases h2:look n M'.fresh with
  | none=>rw [h1,h2] at hl; cases hl
  | some q'=>
   rw [h1,h2] at hl
   have hq:q'.2=q.2:=Option.some.inj hl
   dsimp only
   rw [hq]
theorem Sim.freshR (h:Sim M M') (hW:M.Wf):freshR M'.fresh=freshW M.fresh:=by
 have hk:M'.fresh.map (·.1)=insAll (M.fresh.map (·.1)):=qcB (h.perm.map _) (qrN h.sorted) hW.keysNodup
 rw [freshW,<- hk,List.map_map,Go.Proofs.YtmbcedengdoamaaGreatDoor.freshR]
 refine List.map_congr_left fun e he=>?_
 obtain ⟨i,hi⟩:=qb2 hW.keysNodup (h.perm.mem_iff.1 he)
 show (e.1,sealV e.1 e.2.1 e.2.2)=(e.1,sealV e.1 (leafOf M.fresh e.1).1 (leafOf M.fresh e.1).2)
 rw [leafOf,hi]
theorem Sim.commit (h:Sim M M') (hW:M.Wf) (D:DiskM):(commitR D M').1.1=(commitM D M).1.1/\(commitR D M').2=(commitM D M).2/\Sim (commitM D M).1.2 (commitR D M').1.2:=by
 have hp:planM M'=planM M:=by rw [planM,planM,h.free,h.deferred,h.lists]
 have hn:∀ a b,nextS M' a b=nextS M a b:=fun a b=>by rw [nextS,nextS,h.sup,h.roots]
 have hf:∀ a b s,flushR D M'.fresh a b s=flushM D M.fresh a b s:=fun a b s=>by rw [flushR,flushM,h.freshR hW]
 have he:(M'.fresh=[]↔M.fresh=[]):=⟨fun e=>by have:=h.perm; rw [e] at this; exact this.symm.eq_nil,fun e=>by have:=h.perm; rw [e] at this; exact this.eq_nil⟩
 unfold commitR commitM
 rw [h.over,h.deferred,h.roots,h.sup,hp]
 simp only [he,hn,hf]
 split
 ·exact ⟨rfl,rfl,h⟩
 split
 ·exact ⟨rfl,rfl,h⟩
 cases hpl:planM M with
 | none=>exact ⟨rfl,rfl,h⟩
 | some y=>
  dsimp only
  split
  ·exact ⟨rfl,rfl,⟨rfl,rfl,rfl,rfl,rfl,rfl,rfl,.refl _,.nil⟩⟩
  ·exact ⟨rfl,rfl,⟨rfl,rfl,rfl,rfl,rfl,rfl,rfl,.refl _,.nil⟩⟩
theorem Sim.wf (h:Sim M M') (hW:M.Wf):M'.Wf:=by
 have hp:(M'.free++(M'.deferred++(M'.lists++M'.fresh.map (·.1)))).Perm (M.free++(M.deferred++(M.lists++M.fresh.map (·.1)))):=by
  rw [h.free,h.deferred,h.lists]
  exact ((h.perm.map _).append_left _).append_left _ |>.append_left _
 exact { n4:=by rw [h.sup]; exact hW.n4,u32:=by rw [h.sup]; exact hW.u32,roots:=by rw [h.roots]; exact hW.roots,namedS:=by rw [h.named]; exact hW.namedS,named:=by rw [h.named,h.sup]; exact hW.named,freeS:=by rw [h.free]; exact hW.freeS,defS:=by rw [h.deferred]; exact hW.defS,nodup:=hp.nodup_iff.2 hW.nodup,range:=fun x hx=>by rw [h.sup]; exact hW.range x (hp.mem_iff.1 hx),body:=fun e he=>hW.body e (h.perm.mem_iff.1 he) }
theorem PgM.Wf.small (hW:M.Wf):M.Small:=by
 have:=PgM.Wf.all M hW
 exact ⟨by omega,by omega,by omega,by omega,hW.freeS,hW.defS,fun e he=>Nat.le_trans (hW.body e he).2.1 (by decide),fun e he=>(hW.body e he).2.2⟩
theorem Sim.page (h:Sim M M') (hW:M.Wf) (D:DiskM) (a:OpM) (hn:U32 a.n) (hk:0<=a.kind/\a.kind<256) (hlg:0<=a.long/\a.long<65536) (hB:IsB a.body) :
  (pageM D D M M' a).1=true/\Sim (pageM D D M M' a).2.1 (pageM D D M M' a).2.2/\(pageM D D M M' a).2.1.Wf:=by
 unfold pageM
 split
 ·have:=h.make hW a.kind a.all
  exact ⟨decide_eq_true this.1.symm,this.2,(qre hW hk (OpM.all_IsB hB)).1⟩
 split
 ·have:=h.put hW a.n a.kind a.all
  exact ⟨decide_eq_true this.1.symm,this.2,(qvI hW hk (OpM.all_IsB hB)).1⟩
 split
 ·have:=h.drop hW a.n
  exact ⟨decide_eq_true this.1.symm,this.2,qu1 hW⟩
 split
 ·exact ⟨decide_eq_true (h.read hW D a.n).symm,h,hW⟩
 ·have:=h.setRoot (IntKind.wrap .i32 a.n) a.n a.kind a.long
  refine ⟨decide_eq_true this.1.symm,this.2,?_⟩
  unfold setRootM
  split
  ·exact hW
  split
  ·exact hW
  ·refine { hW with roots:=fun x hx=>?_ }
   have hx:x∈M.roots.take (3*(IntKind.wrap .i32 a.n).toNat)++[a.n,a.kind,a.long]++M.roots.drop (3*(IntKind.wrap .i32 a.n).toNat+3):=hx
   rcases List.mem_append.1 hx with hx | hx
   ·rcases List.mem_append.1 hx with hx | hx
    ·exact hW.roots x (List.mem_of_mem_take hx)
    ·simp only [List.mem_cons,List.not_mem_nil,or_false] at hx
     rcases hx with rfl | rfl | rfl
     ·exact hn
     ·constructor <;> omega
     ·constructor <;> omega
   ·exact hW.roots x (List.mem_of_mem_drop hx)
end
end
def wvZ:List Value:=rvW rvZ
theorem qb7:wvZ.length=27:=rfl
theorem qmT:wvZ.all Value.oneCell'=true:=rfl
theorem qr5:((Tryz.prog.info? BTT).bind (·.zero)).map (fun z=>z.cells.toList)=some (bothV none none rvZ none wvZ 0):=by kernel_rfl
abbrev btOffs:Array (Nat×Nat):=#[(0,1),(1,1),(2,64),(66,1),(67,27),(94,1)]
theorem qts:Tryz.prog.underlying BTT=some (.struct (fieldsOf Tryz.prog BTT)):=by kernel_rfl
theorem qvk:∀ w,((fieldsOf Tryz.prog BTT).mapM fun f=>do pure (f.offset,<- sizeOf f.type):Sem (Array (Nat×Nat))).run Tryz.prog w=.ok btOffs w:=fun w=>by kernel_rfl
theorem qto {d p:Option Addr} {x:RV} (hx:x.Ok) (w:World):(Instr.build BTT #[(0,.pointer d),(1,.pointer p),(2,.agg (refV x).toArray)]).run Tryz.prog w=.ok (.agg (bothV d p x none wvZ 0).toArray) w:=by
 obtain ⟨z,hz,hzs⟩:=Option.map_eq_some_iff.1 qr5
 have hzc:z.cells=(bothV none none rvZ none wvZ 0).toArray:=by rw [<- hzs]
 refine qa2 (parts:=[(0,.pointer d),(1,.pointer p),(2,.agg (refV x).toArray)]) hz qts qvk ?_ w
 rw [hzc,qan (o:=0) (s:=1) rfl rfl (by rw [qaN qaq qb7]; decide)]
 have e1:splice (bothV none none rvZ none wvZ 0).toArray 0 (Value.cells (.pointer d)).toList=(bothV d none rvZ none wvZ 0).toArray:=rfl
 rw [e1,qan (o:=1) (s:=1) rfl rfl (by rw [qaN qaq qb7]; decide)]
 have e2:splice (bothV d none rvZ none wvZ 0).toArray 1 (Value.cells (.pointer p)).toList=(bothV d p rvZ none wvZ 0).toArray:=rfl
 rw [e2,qan (o:=2) (s:=64) rfl (by show (refV x).toArray.size=64; rw [List.size_toArray,qaw hx]) (by rw [qaN qaq qb7]; decide)]
 have e3:splice (bothV d p rvZ none wvZ 0).toArray 2 (Value.cells (.agg (refV x).toArray)).toList=(bothV d p x none wvZ 0).toArray:=qkg qaq hx
 rw [e3]
 rfl
theorem qub {w:World} {n:Nat} {K:List Value×Bool->World->Prop} (hv:Hv w) (h8:8<=n) (h4:n<=4096)
  (hk:∀ dbk pb FD F D x w',DiskAt w' dbk FD D->Lim D 5000->PagerAt w' FD pb (dbOf dbk (madeM n)) F (madeM n)->Made D n->RP (FD++F) w' x D (madeM n)->Fr [] w w'->(∀ b∈FD++F,w.heap.size<=b)->K (bothV (some ⟨dbk,0,none⟩) (some ⟨pb,0,none⟩) x none wvZ 0,true) w') :
  call Tryz.prog 26 [.int .i64 n] [.raw,.one .bool] w K:=by
 refine qhw ?_
 unfold qdH
 refine Own.newZ (Own.start [] w) qr5 fun r1 w1 e1 ho1=>?_
 have hX1:∀ b∈[r1],b<w1.heap.size:=fun b hb=>by rw [List.mem_singleton.1 hb]; exact qab (ho1.at (i:=0) rfl)
 refine qo9 [r1] hX1 (hv.frame0 ho1.fr) h8 h4 fun dbk pb FD F D w2 hDk hLm hPg hMade f2 hnew=>?_
 have ho2:=ho1.frame0 f2
 have l1w2:r1<w1.heap.size:=qab (ho1.at (i:=0) rfl)
 have hS2:∀ b∈r1::(FD++F),b<w2.heap.size:=fun b hb=>(List.mem_cons.1 hb).elim (fun e=>by rw [e]; exact Nat.lt_of_lt_of_le l1w2 f2.size) fun hb=>(List.mem_append.1 hb).elim (hDk.lt b) (hPg.lt b)
 refine qu0 h8 h4 fun d w3 hd f3=>?_
 have hd3:=hd _ hS2
 have ho3:=ho2.frame0 f3
 refine Own.newSt (Own.start [] w3) (cs':=rdC d) rfl rfl (Nat.le_of_ble_eq_true rfl) fun r7 w4 e4 ho4' f4=>?_
 have ho4:=Own.join0 ho3 ho4'
 have hd4:RD (r7::r1::(FD++F)) w4 d (newM n):=hd3.frame (f4.mono fun b hb=>nomatch hb) fun b hb=>(List.mem_cons.1 hb).elim (fun e=>.inr (by rw [e,e4]; exact Nat.le_refl _)) .inl
 have hS4:∀ b∈r7::r1::(FD++F),b<w4.heap.size:=fun b hb=>(List.mem_cons.1 hb).elim (fun e=>by rw [e]; exact qab (ho4'.at (i:=0) rfl)) fun hb=>Nat.lt_of_lt_of_le (hS2 b hb) (Nat.le_trans f3.size f4.size)
 refine Own.ldD (d:=d) ho4 0 rfl ?_
 have hnl:(newM n).safe.length=n:=by simp [newM]
 have hlim:=Lim.new h4
 refine qr2 hd4 hlim (by decide) (by rw [hnl]; exact h8) hS4 fun d5 w5 hd5 f5=>?_
 rw [hMade.fmt] at hd5 ⊢
 have ho5:=ho4.frame0 f5
 refine Own.stD' (d:=d) ho5 0 rfl fun w6 ho6 f6=>?_
 have hd6:RD (r7::r1::(FD++F)) w6 d5 D:=hd5.keep (r:=r7) (by simp) f6
 have hS6:∀ b∈r7::r1::(FD++F),b<w6.heap.size:=fun b hb=>Nat.lt_of_lt_of_le (hS4 b hb) (Nat.le_trans f5.size f6.size)
 refine Own.ldD (d:=d5) ho6 0 rfl ?_
 have hop:=hMade.opens.open
 have hsz:D.safe.length=n:=by have:(D.safe.length:Int)=n:=hMade.size; omega
 refine qj4 hd6 hLm.ok (by rw [hsz]; omega) hS6 (fun e he=>by rw [hop] at he; cases he) fun x M' w7 hM hp7 f7=>?_
 rw [hop] at hM
 have hM:madeM n=M':=Option.some.inj (congrArg Prod.fst hM)
 subst hM
 have ho7:=ho6.frame0 f7
 refine Own.newZ (Own.start [] w7) qbh fun r17 w8 e8 ho8'=>?_
 refine Own.stP ho8' 0 rfl qaq hp7.ok fun w9 ho9' f9=>?_
 refine Own.ldP ho9' 0 rfl hp7.ok ?_
 have ho9:=ho7.frame0 ho9'.fr
 refine qay (ts:=[Ty1.raw]) (bothV (some ⟨dbk,0,none⟩) (some ⟨pb,0,none⟩) x none wvZ 0) (qto hp7.ok w9) ?_
 refine cond_true rfl (cond_true rfl ?_)
 have l95:=qpd (d:=some ⟨dbk,0,none⟩) (p:=some ⟨pb,0,none⟩) (m:=none) (t:=0) hp7.ok qb7
 refine qak l95 ?_
 refine Own.st' ho9 1 rfl (bothV (some ⟨dbk,0,none⟩) (some ⟨pb,0,none⟩) x none wvZ 0).toArray (qaZ (by rw [qaN qaq qb7,l95])) (qsS qmT) (by rw [qaN qaq qb7,l95]; exact Nat.le_of_ble_eq_true rfl) fun w10 ho10 f10=>?_
 refine qas (ho10.at (i:=1) rfl) (bothV (some ⟨dbk,0,none⟩) (some ⟨pb,0,none⟩) x none wvZ 0) l95 (by rw [List.drop_zero,List.take_of_length_le (Nat.le_of_eq l95)]) ?_
 have l1:w.heap.size<=r1:=by omega
 have f24:Fr [] w2 w4:=f3.trans f4
 have f26:Fr [] w2 w6:=(f24.trans f5).trans' f6 fun b hb=>by rw [List.mem_singleton.1 hb,e4]; exact .inr f3.size
 have f29:Fr [] w2 w9:=(f26.trans f7).trans ho9'.fr
 have hp9:RP (r7::r1::(FD++F)) w9 x D (madeM n):=hp7.frame0 ho9'.fr
 have l1w:w1.heap.size=w.heap.size+1->True:=fun _=>trivial
 have hr1:r1<w1.heap.size:=l1w2
 have nr1:∀ b∈FD++F,b≠r1:=fun b hb e=>by have:=hnew b hb; omega
 have hp9':RP (r1::(FD++F)) w9 x D (madeM n):=hp9.frame (.refl _ _) fun b hb=>.inl (List.mem_cons_of_mem _ hb)
 have f210:Fr [r1] w2 w10:=(f29.mono fun b hb=>nomatch hb).trans f10
 have hpg:PagerAt w10 (FD++[r1]) pb (dbOf dbk (madeM n)) F (madeM n):=hPg.frameX (f210.mono fun b hb _=>List.mem_append_right _ hb) (fun b hb=>Nat.lt_of_lt_of_le (hPg.xlt b hb) f210.size) fun b hb=>.inl hb
 refine hk dbk pb FD F D x w10 (hDk.frame f210 fun b hb hm=>nr1 b (List.mem_append_left _ hb) (List.mem_singleton.1 hm)) hLm (hpg.weakX fun b hb=>List.mem_append_left _ hb) hMade (hp9'.frame (f10.mono fun b hb _=>by rw [List.mem_singleton.1 hb]; simp) fun b hb=>.inl (List.mem_cons_of_mem _ hb)) ho10.fr fun b hb=>Nat.le_trans ho1.fr.size (hnew b hb)
theorem qsu {D:DiskM} {f:List (Int×Int×List Int)} {p n:List Int} {s:Sup}:(flushM D f p n s).1.safe.length=D.safe.length:=
 qeq qgN fun D' h=>qeq (by rw [qgF,h]) fun D' h=>by rw [qtn,h]
theorem qqM {D:DiskM} {M:PgM}:(commitM D M).1.1.safe.length=D.safe.length:=by
 unfold commitM
 split
 ·rfl
 split
 ·rfl
 split
 ·rfl
 ·split <;> exact qsu
theorem qpy {D:DiskM} {M:PgM} (h:0<=M.turn):0<=(commitM D M).1.2.turn/\(commitM D M).1.2.turn<=M.turn+1:=by
 unfold commitM
 split
 ·dsimp only; omega
 split
 ·dsimp only; omega
 split
 ·dsimp only; omega
 ·split
  ·show 0<=(1:Int)/\(1:Int)<=M.turn+1; omega
  ·show 0<=M.turn+1/\M.turn+1<=M.turn+1; omega
theorem qo7 {D:DiskM} {M:PgM} (h:0<=M.turn):0<=(commitR D M).1.2.turn/\(commitR D M).1.2.turn<=M.turn+1:=by
 unfold commitR
 split
 ·dsimp only; omega
 split
 ·dsimp only; omega
 split
 ·dsimp only; omega
 ·split
  ·show 0<=(0:Int)/\(0:Int)<=M.turn+1; omega
  ·show 0<=M.turn+1/\M.turn+1<=M.turn+1; omega
theorem qsa (M:PgM) (kd:Int) (l:List Int):(makeV M kd l).2.turn=M.turn:=by unfold makeV; split; rfl; split; rfl; split <;> rfl
theorem qrw (M:PgM) (kd:Int) (l:List Int):(makeR M kd l).2.turn=M.turn:=by unfold makeR; split; rfl; split; rfl; split <;> rfl
theorem qnX (M:PgM) (n kd:Int) (l:List Int):(putV M n kd l).2.turn=M.turn:=by
 unfold putV
 split
 ·rfl
 ·split
  ·rfl
  ·split <;> rfl
theorem qlP (M:PgM) (n:Int):(dropV M n).2.turn=M.turn:=by
 unfold dropV
 split
 ·rfl
 ·split
  ·rfl
  ·split <;> rfl
theorem qiB (M:PgM) (t a b c:Int):(setRootM M t a b c).2.turn=M.turn:=by
 unfold setRootM
 split
 ·rfl
 ·split <;> rfl
theorem qsd (D D':DiskM) (M M':PgM) (a:OpM):(pageM D D' M M' a).2.1.turn=M.turn/\(pageM D D' M M' a).2.2.turn=M'.turn:=by
 unfold pageM
 split
 ·exact ⟨qsa ..,qrw ..⟩
 split
 ·exact ⟨qnX ..,qnX ..⟩
 split
 ·exact ⟨qlP ..,qlP ..⟩
 split
 ·exact ⟨rfl,rfl⟩
 ·exact ⟨qiB ..,qiB ..⟩
theorem Pair.lims {w:World} {bb dbk pb:Nat} {FD X F:List Nat} {x:RV} {D D':DiskM} {M M':PgM} {k k2:Nat} {m:Option Addr} {wv:List Value} {t:Int} (h:Pair w bb dbk pb FD X F x D M D' M' k m wv t) (hk:k<=k2):Pair w bb dbk pb FD X F x D M D' M' k2 m wv t:=
 ⟨h.cell,h.disk,h.lim.mono hk,h.pager,h.sub,h.bx,h.nd,h.ref,h.wl,h.w1⟩
structure Good (D:DiskM) (M M':PgM) (j:Nat):Prop where
 sim:Sim M M'
 wf:M.Wf
 turn:0<=M.turn/\M.turn<=j
 turn':0<=M'.turn/\M'.turn<=j
theorem qqx {v v':Int->List Int} {s t:Sup} (h:newestV (v 0) (v 1)=(s,0)) (ht:t.1=s.1+1) (h0:0<=s.1) (hr:readSV (t.1%2) (v' (t.1%2))=(t,0)) (ho:v' (s.1%2)=v (s.1%2)):newestV (v' 0) (v' 1)=(t,0):=by
 rcases qp8 h with ⟨h1,hp,_⟩ | ⟨h1,hp,_⟩
 ·have hp:s.1%2=0:=by rw [<- Int.tmod_eq_emod_of_nonneg h0]; exact hp
  have e:t.1%2=1:=by omega
  rw [e] at hr
  rw [hp] at ho
  rw [newestV,ho,h1,hr,if_neg (by simp),if_pos (.inr ⟨rfl,by dsimp only; omega⟩)]
 ·have hp:s.1%2=1:=by rw [<- Int.tmod_eq_emod_of_nonneg h0]; exact hp
  have e:t.1%2=0:=by omega
  rw [e] at hr
  rw [hp] at ho
  rw [newestV,ho,h1,hr,if_neg (by simp),if_neg (by dsimp only; omega)]
theorem qpE (M:PgM) (pages named:List Int):(nextS M pages named).2.getD 0 0=M.sup.2.getD 0 0/\(nextS M pages named).2.getD 1 0=pages.headD 0/\(nextS M pages named).2.getD 2 0=IntKind.wrap .u32 named.length:=⟨rfl,rfl,rfl⟩
theorem qtL {n:Int} {pages named:List Int} (h:ListOk n named pages) (h4:n<=4096):IntKind.wrap .u32 (named.length:Int)=named.length:=by
 have:=qcC (qbx h.rises) h.nums
 refine qaJ _ ?_
 rcases this with h' | h'
 ·omega
 ·rw [h']; exact ⟨by decide,by decide⟩
theorem Opens.next {D D':DiskM} {M:PgM} {pages named:List Int} (h:Opens D M.sup M.lists M.named) (hW:M.Wf) (hplan:planM M=some (pages,named)) (hs:SupOk (nextS M pages named)) (hq:(nextS M pages named).1=M.sup.1+1) (h0:0<=M.sup.1) (hd:D'.down=false) (hsz:D'.size=D.size)
  (hl:Listed D' named pages) (hp:view D' ((nextS M pages named).1%2)=sealV ((nextS M pages named).1%2) 1 (superB (nextS M pages named).1 (nextS M pages named).2)) (ho:view D' (M.sup.1%2)=view D (M.sup.1%2)):Opens D' (nextS M pages named) pages named:=by
 have hk:=qbz hW hplan
 have hb:=qpE M pages named
 have hnw:newestV (view D' 0) (view D' 1)=(nextS M pages named,0):=qqx (v:=view D) (v':=view D') h.newest hq h0 (by rw [hp]; exact hs.read) ho
 exact {
  down:=hd
  size:=by rw [hsz]; exact h.size
  newest:=hnw
  blocks:=by rw [hb.1,hsz]; exact h.blocks
  list:=hb.2.1
  free:=by rw [hb.2.2]; exact qtL hk hW.n4
  ok:=by rw [hsz,<- h.blocks]; exact hk
  listed:=hl }
def PgM.Named (M:PgM):Prop:=(M.free++M.fresh.map (·.1)).Perm M.named
theorem qcQ (s:Sup) (pages numbers:List Int) (t:Int) (ov:Bool):(begunM s pages numbers t ov numbers).Named:=by
 show (numbers++[]).Perm numbers
 rw [List.append_nil]
theorem qrz {M:PgM} {kd:Int} {l:List Int} (hW:M.Wf) (h:M.Named):(makeV M kd l).2.Named:=by
 unfold makeV
 split
 ·exact h
 split
 ·exact h
 split
 ·exact h
 ·rename_i n r hf
  have hnk:n∉M.fresh.map (·.1):=fun hm=>by
   have hn:=hW.nodup
   rw [hf,List.cons_append,List.nodup_cons] at hn
   exact hn.1 (List.mem_append_right _ (List.mem_append_right _ (List.mem_append_right _ hm)))
  show (r++(setL n (kd,l) M.fresh).map (·.1)).Perm M.named
  rw [qlu hnk,List.map_append,<- List.append_assoc]
  refine (List.perm_append_singleton n _).trans ?_
  have:=h
  rw [PgM.Named,hf] at this
  exact this
theorem qtu {M:PgM} {n kd:Int} {l:List Int} (h:M.Named):(putV M n kd l).2.Named:=by
 unfold putV
 split
 ·exact h
 split
 ·exact h
 rename_i q hq
 split
 ·exact h
 ·have hm:n∈M.fresh.map (·.1):=List.mem_map.2 ⟨_,(qaI hq).2,rfl⟩
  show (M.free++(setL n (kd,l) M.fresh).map (·.1)).Perm M.named
  rw [qjy hm]
  exact h
theorem qrU {M:PgM} {n:Int} (hW:M.Wf) (h:M.Named):(dropV M n).2.Named:=by
 unfold dropV
 split
 ·exact h
 split
 ·rename_i q hq
  have hm:n∈M.fresh.map (·.1):=List.mem_map.2 ⟨_,(qaI hq).2,rfl⟩
  have hn:=hW.nodup
  have hnf:n∉M.free:=fun h=>by
   rw [List.nodup_append] at hn
   exact hn.2.2 n h n (List.mem_append_right _ (List.mem_append_right _ hm)) rfl
  show (ins n M.free++(delL n M.fresh).map (·.1)).Perm M.named
  refine (((qcW hnf).append_right _).trans ?_).trans h
  exact List.perm_middle.symm.trans ((qn5 hm).symm.append_left M.free)
 ·split
  ·exact h
  ·exact h
theorem qr8 {M:PgM} {t a b c:Int} (h:M.Named):(setRootM M t a b c).2.Named:=by
 unfold setRootM
 split
 ·exact h
 ·split <;> exact h
theorem PgM.Named.mem {M:PgM} (h:M.Named) (x:Int):x∈M.named↔x∈M.free\/x∈M.fresh.map (·.1):=by
 rw [<- h.mem_iff,List.mem_append]
section
structure Grew (P:Int×Blk->Prop) (D D':DiskM):Prop where
 safe:D'.safe=D.safe
 waits:∃ W,D'.waits=D.waits++W/\∀ x∈W,P x
section
variable {P Q:Int×Blk->Prop} {D D1 D2:DiskM}
end
theorem qr7 {D:DiskM} {ls:List (Int×Int)}:(crashM D ls).safe.length=D.safe.length:=qdc _ _
structure Fallen (D D':DiskM) (M:PgM) (pages named:List Int):Prop where
 down:D'.down=false
 waits:D'.waits=[]
 size:D'.size=D.size
 rest:∀ m,2<=m->m∉M.fresh.map (·.1)->m∉pages->view D' m=view D m
 stay:view D' (M.sup.1%2)=view D (M.sup.1%2)
 super:(view D' ((M.sup.1+1)%2)=view D ((M.sup.1+1)%2))\/(Listed D' named pages/\∀ e∈M.fresh,view D' e.1=sealV e.1 e.2.1 e.2.2)
end
section
def PagesOk (D:DiskM) (M:PgM):Prop:=∀ x,2<=x->x<M.sup.2.getD 0 0->x∉M.named->x∉M.lists->(openV x (view D x)).2.2=0
theorem qqW {M:PgM} (hN:M.Named) (x:Int):x∈M.all↔x∈M.named\/x∈M.deferred\/x∈M.lists:=by
 rw [hN.mem x]
 simp only [PgM.all,List.mem_append]
 constructor
 ·rintro (h | h | h | h)
  ·exact .inl (.inl h)
  ·exact .inr (.inl h)
  ·exact .inr (.inr h)
  ·exact .inl (.inr h)
 ·rintro ((h | h) | h | h)
  ·exact .inl h
  ·exact .inr (.inr (.inr h))
  ·exact .inr (.inl h)
  ·exact .inr (.inr (.inl h))
theorem quh {M:PgM} {pages named:List Int} (hplan:planM M=some (pages,named)) (x:Int):x∈pages\/x∈named↔x∈M.free\/x∈M.deferred\/x∈M.lists:=by
 obtain ⟨k,hk,hkl,rfl,rfl⟩:=qhD hplan
 rw [qbU]
 have e:x∈M.free↔x∈M.free.take k\/x∈M.free.drop k:=by
  conv=>lhs; rw [<- List.take_append_drop k M.free]
  exact List.mem_append
 simp only [List.mem_append,e]
 constructor
 ·rintro (h | (h | h) | h)
  ·exact .inl (.inl h)
  ·exact .inr (.inl h)
  ·exact .inr (.inr h)
  ·exact .inl (.inr h)
 ·rintro ((h | h) | h | h)
  ·exact .inl h
  ·exact .inr (.inr h)
  ·exact .inr (.inl (.inl h))
  ·exact .inr (.inl (.inr h))
section
variable {D D':DiskM} {M:PgM} {pages named:List Int} {t:Int} {ov:Bool}
theorem qqC (hW:M.Wf) (hf:∀ e∈M.fresh,view D' e.1=sealV e.1 e.2.1 e.2.2) {e:Int×Int×List Int} (he:e∈M.fresh):openV e.1 (view D' e.1)=(e.2.1,e.2.2,0):=by
 have hk:=hW.keys e.1 (List.mem_map_of_mem he)
 have h4:=hW.n4
 rw [hf e he]
 exact qgM ⟨by omega,by omega⟩ (hW.body e he).2.1
theorem qr9 (hW:M.Wf) (hN:M.Named) (hplan:planM M=some (pages,named)) (hP:PagesOk D M) (hr:∀ m,2<=m->m∉M.fresh.map (·.1)->m∉pages->view D' m=view D m) (hf:∀ e∈M.fresh,view D' e.1=sealV e.1 e.2.1 e.2.2):PagesOk D' (begunM (nextS M pages named) pages named t ov named):=by
 intro x h2 hb hn hl
 have hn:x∉named:=hn
 have hl:x∉pages:=hl
 by_cases hx:x∈M.fresh.map (·.1)
 ·obtain ⟨e,he,rfl⟩:=List.mem_map.1 hx
  rw [qqC hW hf he]
 ·have hpm:=quh hplan x
  rw [hr x h2 hx hl]
  refine hP x h2 hb (fun hm=>?_) fun hm=>?_
  ·rcases (hN.mem x).1 hm with h' | h'
   ·rcases hpm.2 (.inl h') with h'' | h''
    ·exact hl h''
    ·exact hn h''
   ·exact hx h'
  ·rcases hpm.2 (.inr (.inr hm)) with h'' | h''
   ·exact hl h''
   ·exact hn h''
theorem qs0 {x:Int} (ho:M.over=false) (hd:D.down=false) (hx:2<=x/\x<D.size) (hb:M.sup.2.getD 0 0=D.size) (h:x∉M.all):pagerReadM D M x=openV x (view D x):=by
 have hl:look x M.fresh=none:=qbs.2 fun hm=>h (List.mem_append_right _ (List.mem_append_right _ (List.mem_append_right _ hm)))
 have hu:usedV M x=true:=qlm.2 ⟨⟨hx.1,by rw [hb]; exact hx.2⟩,h⟩
 have hr:=qe5 hd (n:=x) ⟨by omega,hx.2⟩
 unfold pagerReadM
 rw [if_neg (by rw [ho]; decide),hl]
 dsimp only
 rw [if_neg (by rw [hu]; decide),hr,if_neg (by simp)]
theorem quv {x:Int} (ho:M.over=false) (h:x∈M.all) (hf:x∉M.fresh.map (·.1)):pagerReadM D M x=(0,[],10):=by
 have hu:usedV M x=false:=by
  cases hu:usedV M x with
  | false=>rfl
  | true=>exact absurd h (qlm.1 hu).2
 unfold pagerReadM
 rw [if_neg (by rw [ho]; decide),qbs.2 hf]
 dsimp only
 rw [if_pos hu]
theorem qrL {e:Int×Int×List Int} (ho:M.over=false) (hW:M.Wf) (he:e∈M.fresh):pagerReadM D M e.1=(e.2.1,e.2.2,0):=by
 obtain ⟨i,hi⟩:=qb2 hW.keysNodup he
 unfold pagerReadM
 rw [if_neg (by rw [ho]; decide),hi]
end
end
structure Disks (w:World) (bb dbk pb:Nat) (FD:List Nat) (x:RV) (D:DiskM) (k:Nat):Prop where
 cell:w.heap[bb]?=some (.cells (bothV (some ⟨dbk,0,none⟩) (some ⟨pb,0,none⟩) x none wvZ 0).toArray BTT (0,0))
 disk:DiskAt w dbk FD D
 lim:Lim D k
 ref:RD (bb::FD) w x.d D
 ok:x.Ok
 nd:bb∉FD
theorem qsp {D:DiskM} (h:openM D=(none,0)):False:=by
 unfold openM at h
 split at h
 ·rename_i hc; exact hc (congrArg Prod.snd h)
 split at h
 ·rename_i hc; exact hc (congrArg Prod.snd h)
 split at h
 ·rename_i hc; exact hc (congrArg Prod.snd h)
 split at h
 ·have:=congrArg Prod.snd h; exact absurd this (by decide)
 split at h
 ·have:=congrArg Prod.snd h; exact absurd this (by decide)
 ·have:=congrArg Prod.fst h; cases this
theorem qpW {D:DiskM} {bl:Int}:∀ {f:Nat} {a:Int} {l n:List Int} {x:List Int×List Int},walkM D bl f a l n=some x->l.Nodup->(∀ y∈l,2<=y/\y<bl)->(∀ y∈n,2<=y)->x.1.Nodup/\(∀ y∈x.1,2<=y/\y<bl)/\∀ y∈x.2,2<=y
 | 0,a,l,n,x,h,_,_,_=>by cases h
 | f+1,a,l,n,x,h,h1,h2,h3=>by
  rw [walkM] at h
  split at h
  ·cases h; exact ⟨h1,h2,h3⟩
  split at h
  ·cases h
  rename_i ha
  split at h
  ·cases h
  split at h
  ·cases h
  split at h
  ·cases h
  rename_i hp
  refine qpW h ?_ (fun y hy=>?_) fun y hy=>?_
  ·rw [List.nodup_append]
   exact ⟨h1,by simp,fun y hy z hz e=>ha (.inr (.inr (by rw [List.mem_singleton.1 hz] at e; exact e▸hy)))⟩
  ·rcases List.mem_append.1 hy with hy | hy
   ·exact h2 y hy
   ·rw [List.mem_singleton.1 hy]; constructor <;> omega
  ·rcases List.mem_append.1 hy with hy | hy
   ·exact h3 y hy
   ·exact qmy (Classical.not_not.1 hp) y hy
theorem qur {D:DiskM} {s:Sup} {x:List Int×List Int} (h:loadM D s=some x):x.1.Nodup/\(∀ y∈x.1,2<=y/\y<s.2.getD 0 0)/\(∀ y∈x.2,2<=y/\y<s.2.getD 0 0/\y∉x.1)/\x.2.Pairwise (· < ·):=by
 unfold loadM at h
 split at h
 ·cases h
 ·rename_i y hy
  split at h
  ·rename_i hc
   cases h
   have h1:=qpW hy .nil (fun y hy=>nomatch hy) (fun y hy=>nomatch hy)
   have h2:=(qe9 _ _ _ _).1 hc.1
   exact ⟨h1.1,h1.2.1,fun z hz=>⟨h1.2.2 z hz,(h2.1 z hz).2⟩,h2.2⟩
  ·cases h
theorem qk7 {D:DiskM} {M:PgM} {e:Int} (h:openM D=(some M,e)):e=0/\∃ s x,loadM D s=some x/\M=begunM s x.1 x.2 1 false x.2/\s.2.getD 0 0=D.safe.length/\(∀ y∈s.2,U32 y)/\s.2.length=27:=by
 unfold openM at h
 split at h
 ·cases congrArg Prod.fst h
 split at h
 ·cases congrArg Prod.fst h
 split at h
 ·cases congrArg Prod.fst h
 split at h
 ·cases congrArg Prod.fst h
 rename_i hb
 split at h
 ·cases congrArg Prod.fst h
 ·rename_i x hx
  have e1:=Option.some.inj (congrArg Prod.fst h)
  refine ⟨(congrArg Prod.snd h).symm,_,x,hx,e1.symm,Classical.not_not.1 hb,fun y hy=>?_,qeb _ _⟩
  unfold newestV at hy
  split at hy
  ·have:=List.eq_of_mem_replicate (show y∈List.replicate 27 (0:Int) from hy)
   subst this
   exact ⟨by decide,by decide⟩
  split at hy
  ·exact qff _ _ y hy
  ·exact qff _ _ y hy
theorem qua {D:DiskM} {M:PgM} {e:Int} (hD:D.Ok) (h:openM D=(some M,e)):M.Wf/\M.over=false/\M.turn=1/\M.Named:=by
 obtain ⟨_,s,x,hx,rfl,hb,hu,_⟩:=qk7 h
 have hl:=qur hx
 have hs:=hD.safe
 refine ⟨?_,rfl,rfl,qcQ _ _ _ _ _⟩
 exact {
  n4:=by show s.2.getD 0 0<=4096; rw [hb]; omega
  u32:=hu
  roots:=fun y hy=>hu y (List.mem_of_mem_drop hy)
  namedS:=hl.2.2.2
  named:=fun y hy=>⟨(hl.2.2.1 y hy).1,(hl.2.2.1 y hy).2.1⟩
  freeS:=hl.2.2.2
  defS:=.nil
  nodup:=by
   show (x.2++([]++(x.1++[]))).Nodup
   rw [List.nil_append,List.append_nil,List.nodup_append]
   exact ⟨qbx hl.2.2.2,hl.1,fun y hy z hz e=>(hl.2.2.1 y hy).2.2 (e▸hz)⟩
  range:=fun y hy=>by
   have hy:y∈x.2++([]++(x.1++[])):=hy
   rw [List.nil_append,List.append_nil,List.mem_append] at hy
   rcases hy with hy | hy
   ·exact ⟨(hl.2.2.1 y hy).1,(hl.2.2.1 y hy).2.1⟩
   ·exact hl.2.1 y hy
  body:=fun e he=>nomatch he }
structure StM where
 D:DiskM
 M:PgM
 k:Option PgM
def pageA (D:DiskM) (M:PgM) (a:OpM):PgM:=(pageM D D M M a).2.1
theorem qi9 (D D':DiskM) (M M':PgM) (a:OpM):(pageM D D' M M' a).2.1=pageA D M a:=by
 unfold pageA pageM
 split
 ·rfl
 split
 ·rfl
 split
 ·rfl
 split <;> rfl
def abortM (M:PgM):PgM:=begunM M.sup M.lists M.named (M.turn+1) M.over M.named
def backM (M:PgM) (k:Option PgM):PgM:=if M.over then M else match k with | some q=>if q.turn=M.turn then q else M | none=>M
def anewM (s:StM):StM:=match (openM s.D).1 with | some M=>⟨s.D,M,none⟩ | none=>s
def stepM (a:OpM) (s:StM):StM:=
 if a.act%12=5 then ⟨(commitM s.D s.M).1.1,(commitM s.D s.M).1.2,s.k⟩
 else if a.act%12=6 then ⟨s.D,abortM s.M,s.k⟩
 else if a.act%12=7 then ⟨s.D,s.M,if s.M.over then none else some s.M⟩
 else if a.act%12=8 then ⟨s.D,backM s.M s.k,s.k⟩
 else if a.act%12=9 then anewM s
 else if a.act%12=10 then ⟨fuseM s.D (a.n%20),s.M,s.k⟩
 else if a.act%12=11 then anewM ⟨crashM s.D a.lost,s.M,s.k⟩
 else ⟨s.D,pageA s.D s.M a,s.k⟩
theorem quu {M:PgM} (hW:M.Wf) (hN:∀ x∈M.named,x∉M.lists):(abortM M).Wf where
 n4:=hW.n4
 u32:=hW.u32
 roots:=fun x hx=>hW.u32 x (List.mem_of_mem_drop hx)
 namedS:=hW.namedS
 named:=hW.named
 freeS:=hW.namedS
 defS:=.nil
 nodup:=by
  show (M.named++([]++(M.lists++[]))).Nodup
  rw [List.nil_append,List.append_nil,List.nodup_append]
  refine ⟨qbx hW.namedS,?_,fun x hx y hy e=>hN x hx (e▸hy)⟩
  exact hW.nodup.sublist (((List.sublist_append_left _ _).trans (List.sublist_append_right _ _)).trans (List.sublist_append_right _ _))
 range:=fun x hx=>by
  have hx:x∈M.named++([]++(M.lists++[])):=hx
  rw [List.nil_append,List.append_nil,List.mem_append] at hx
  rcases hx with hx | hx
  ·exact hW.named x hx
  ·exact hW.range x (List.mem_append_right _ (List.mem_append_right _ (List.mem_append_left _ hx)))
 body:=fun e he=>nomatch he
theorem PgM.Named.apart {M:PgM} (h:M.Named) (hW:M.Wf):∀ x∈M.named,x∉M.lists:=fun x hx hl=>by
 have hnd:=hW.nodup
 rw [List.nodup_append] at hnd
 have h2:=hnd.2.1
 rw [List.nodup_append] at h2
 have h3:=h2.2.1
 rw [List.nodup_append] at h3
 rcases (h.mem x).1 hx with h' | h'
 ·exact hnd.2.2 x h' x (List.mem_append_right _ (List.mem_append_left _ hl)) rfl
 ·exact h3.2.2 x hl x h' rfl
theorem qpJ {D:DiskM} {M:PgM} (h:M.Named):(commitM D M).1.2.Named:=by
 unfold commitM
 split
 ·exact h
 split
 ·exact h
 split
 ·exact h
 ·split
  ·exact qcQ _ _ _ _ _
  ·exact qcQ _ _ _ _ _
theorem qrZ {D:DiskM} {M:PgM} {a:OpM} (hW:M.Wf) (h:M.Named):(pageA D M a).Named:=by
 unfold pageA pageM
 split
 ·exact qrz hW h
 split
 ·exact qtu h
 split
 ·exact qrU hW h
 split
 ·exact h
 ·exact qr8 h
theorem qvi {D:DiskM} {M:PgM} {a:OpM} (hW:M.Wf) (hn:U32 a.n) (hk:0<=a.kind/\a.kind<256) (hlg:0<=a.long/\a.long<65536) (hB:IsB a.body):(pageA D M a).Wf:=by
 have h:Sim M { M with fresh:=M.fresh.mergeSort (fun x y=>decide (x.1<=y.1)) }:=by
  refine ⟨rfl,rfl,rfl,rfl,rfl,rfl,rfl,List.mergeSort_perm _ _,?_⟩
  have h1:=List.pairwise_mergeSort (le:=fun (x y:Int×Int×List Int)=>decide (x.1<=y.1)) (fun x y z=>by simpa using fun h1 h2=>Int.le_trans h1 h2) (fun x y=>by simpa using Int.le_total x.1 y.1) M.fresh
  have h2:((M.fresh.mergeSort (fun x y=>decide (x.1<=y.1))).map (·.1)).Nodup:=((List.mergeSort_perm M.fresh (fun x y=>decide (x.1<=y.1))).map (fun x=>x.1)).nodup_iff.2 hW.keysNodup
  have h1':((M.fresh.mergeSort (fun x y=>decide (x.1<=y.1))).map (·.1)).Pairwise (·<=·):=List.pairwise_map.2 (h1.imp fun h=>by simpa using h)
  exact (h1'.and h2).imp fun ⟨h3,h4⟩=>by omega
 have:=(h.page hW D a hn hk hlg hB).2.2
 rw [qi9] at this
 exact this
theorem qjN (D:DiskM) (M:PgM) (a:OpM):(pageA D M a).sup=M.sup/\(pageA D M a).lists=M.lists/\(pageA D M a).named=M.named/\(pageA D M a).over=M.over/\(pageA D M a).turn=M.turn:=by
 unfold pageA pageM
 split
 ·unfold makeV; split; exact ⟨rfl,rfl,rfl,rfl,rfl⟩; split; exact ⟨rfl,rfl,rfl,rfl,rfl⟩; split <;> exact ⟨rfl,rfl,rfl,rfl,rfl⟩
 split
 ·unfold putV
  split
  ·exact ⟨rfl,rfl,rfl,rfl,rfl⟩
  ·split
   ·exact ⟨rfl,rfl,rfl,rfl,rfl⟩
   ·split <;> exact ⟨rfl,rfl,rfl,rfl,rfl⟩
 split
 ·unfold dropV
  split
  ·exact ⟨rfl,rfl,rfl,rfl,rfl⟩
  ·split
   ·exact ⟨rfl,rfl,rfl,rfl,rfl⟩
   ·split <;> exact ⟨rfl,rfl,rfl,rfl,rfl⟩
 split
 ·exact ⟨rfl,rfl,rfl,rfl,rfl⟩
 ·unfold setRootM
  split
  ·exact ⟨rfl,rfl,rfl,rfl,rfl⟩
  ·split <;> exact ⟨rfl,rfl,rfl,rfl,rfl⟩
section
theorem qp2 {w:World} {mb:Nat} {g:List (Int×Value)} {K:Option Nat->World->Prop} (h:MapS u32V w mb g) (hk:∀ mb' w',mb'=w.heap.size->MapS u32V w' mb' g->Fr [] w w'->K (some mb') w') :
  call Tryz.prog 137 [.map (some mb)] [.one .map] w K:=by
 refine qoe (m:=some mb) ?_
 unfold qkQ
 refine cond_false rfl ?_
 obtain ⟨es,c,hb,he,hs,hc⟩:=h
 have hrun:(Extern.MapsClone.clone #[.iface MLT (.map (some mb))]).run Tryz.prog w=.ok (.iface MLT (.map (some w.heap.size))) (w.alloc (.map es c)):=by
  have e:Extern.MapsClone.clone #[.iface MLT (.map (some mb))]=(getObj mb >>=fun o=>match o with
    | .map entries clock=>(newObj (.map entries clock) >>=fun n=>pure (.iface MLT (.map (some n))))
    | _=>stuck "maps.clone: a map expected"):=rfl
  rw [e]
  simp [Go.MapKept.run_getObj_map hb,Result.andThen,go_sem]
 refine qtB (e:=Extern.MapsClone.clone) Tryz.func160 (by kernel_rfl) (by kernel_rfl) (by kernel_rfl) (by kernel_rfl) (.iface MLT (.map (some w.heap.size))) (w.alloc (.map es c)) hrun ?_
 refine qay (ts:=[Ty1.one .map]) (some w.heap.size) ?_ ?_
 ·simp [Instr.typeAssert,run_underlying (show Tryz.prog.underlying MLT=some (.map 29 105) by kernel_rfl),go_sem,Result.andThen]
  rfl
 ·exact hk _ _ rfl ⟨es,c,by rw [qbq,if_pos rfl],he,hs,hc⟩ ((Fr.refl [] w).alloc _)
theorem qos {P:Program} {t d:TypeId} {a:Addr} (D:Nat) (ht:P.underlying t=some (.pointer d)) (hi:(P.info? d).isSome=true) (hs:sizeT P d≠0) (w:World) :
  (Op.equalIn (D+1) t (.pointer (some a)) (.pointer (some a))).run P w=.ok true w:=by
 simp [Op.equalIn,run_underlying ht,qaz hi,sameAddr,hs]
theorem qu8 {P:Program} {t d:TypeId} {x y:Operand} {a:Addr} {w:World} {K:Bool->Prop} (ht:P.underlying t=some (.pointer d)) (hi:(P.info? d).isSome=true) (hs:Nat.beq (sizeT P d) 0=false) (k:K false) :
  runQ [Ty1.one Cell.bool] (fun w'=>(do eqGuard .neq t x y (.pointer (some a)) (.pointer (some a)); binOp .neq t (.pointer (some a)) (.pointer (some a)):Sem Value).run P w') w K:=by
 have hr:=qos (P:=P) (a:=a) 9999 ht hi (fun e=>by rw [e] at hs; cases hs) w
 have hb:(binOp .neq t (.pointer (some a)) (.pointer (some a))).run P w=.ok (.bool false) w:=qaH (P:=P) true hr (by simp) (by simp) (by simp) (by simp)
 unfold runQ
 refine ⟨false,?_,k⟩
 simp [eqGuard,hb]
 rfl
section
variable {w:World} {S:List Nat}
structure WorkAt (w:World) (S:List Nat) (fb defb mb:Nat) (F1 F2:List Nat) (fs:List (Int×Leaf)) (q:PgM):Prop where
 free:PoolAt w fb F1 q.free
 deferred:PoolAt w defb F2 q.deferred
 map:MapS u32V w mb (fs.map fun e=>(e.1,leafV e.2))
 fresh:q.fresh=fs.map fun e=>(e.1,e.2.1,e.2.2.2)
 bodies:∀ e∈fs,RdB S w e.2.2.1 e.2.2.2
 out:∀ b∈mb::(F1++F2),b∉S
 apart:mb∉F1/\mb∉F2/\∀ b∈F1,b∉F2
 roots:q.roots.length=24
theorem WorkAt.lt {fb defb mb:Nat} {F1 F2:List Nat} {fs:List (Int×Leaf)} {q:PgM} (h:WorkAt w S fb defb mb F1 F2 fs q):∀ b∈mb::(F1++F2),b<w.heap.size:=fun b hb=>by
 rcases List.mem_cons.1 hb with rfl | hb
 ·exact h.map.lt
 ·exact (List.mem_append.1 hb).elim (h.free.lt b) (h.deferred.lt b)
theorem WorkAt.frame {fb defb mb:Nat} {F1 F2:List Nat} {fs:List (Int×Leaf)} {q:PgM} {S':List Nat} {w':World} (h:WorkAt w S fb defb mb F1 F2 fs q) (f:Fr S w w') (hS:∀ b∈S',b∈S\/w.heap.size<=b):WorkAt w' S' fb defb mb F1 F2 fs q where
 free:=h.free.frame f fun b hb=>h.out b (by simp [hb])
 deferred:=h.deferred.frame f fun b hb=>h.out b (by simp [hb])
 map:=h.map.frame f (h.out mb (by simp))
 fresh:=h.fresh
 bodies:=fun e he=>(h.bodies e he).frame f hS
 out:=fun b hb hm=>(hS b hm).elim (h.out b hb) fun h'=>by have:=h.lt b hb; omega
 apart:=h.apart
 roots:=h.roots
theorem qn3 (x y:Option Addr) (m:Option Nat) (roots:List Int):(workV x y m roots).all Value.oneCell'=true:=by
 rw [List.all_eq_true]
 intro v hv
 simp only [workV,List.mem_append,List.mem_cons,List.mem_map,List.not_mem_nil,or_false] at hv
 rcases hv with (rfl | rfl | rfl) | ⟨x,_,rfl⟩ <;> rfl
theorem qvZ:((Tryz.prog.info? WKT).bind (·.zero)).map (fun z=>z.cells.toList)=some (workV none none none (zs 24)):=by kernel_rfl
theorem qnu {fb defb mb:Nat} {F1 F2:List Nat} {fs:List (Int×Leaf)} {q:PgM} {K:List Value->World->Prop} (h:WorkAt w S fb defb mb F1 F2 fs q) (hl1:q.free.length<=1000000) (hl2:q.deferred.length<=1000000)
  (hk:∀ fb' defb' mb' F1' F2' w',WorkAt w' S fb' defb' mb' F1' F2' fs q->Fr [] w w'->(∀ b∈mb'::(F1'++F2'),w.heap.size<=b)->K (workV (some ⟨fb',0,none⟩) (some ⟨defb',0,none⟩) (some mb') q.roots) w')
  (hS:∀ b∈S,b<w.heap.size) :
  call Tryz.prog 111 [.agg (workV (some ⟨fb,0,none⟩) (some ⟨defb,0,none⟩) (some mb) q.roots).toArray] [.raw] w K:=by
 refine qia (w_:=workV (some ⟨fb,0,none⟩) (some ⟨defb,0,none⟩) (some mb) q.roots) ?_
 unfold qeD
 have hr:=h.roots
 refine Own.new' (Own.start [] w) fun r1 w1 e1 f1 ho1=>?_
 refine Own.newZ ho1 qvZ fun r3 w2 e3 ho2=>?_
 have ho:=ho2.drew
 generalize World.drew w2=wd at ho
 refine Own.ld (c:=.ptr) ho 1 rfl (some ⟨fb,0,none⟩) rfl ?_
 refine Own.ld (c:=.ptr) ho 1 rfl (some ⟨defb,0,none⟩) rfl ?_
 refine Own.ld (c:=.map) ho 1 rfl (some mb) rfl ?_
 refine qq6 (h.free.frame ho.fr fun _ _ h=>nomatch h) hl1 fun fb' F1' w4 p1 f4 n1=>?_
 have ho4:=ho.frame0 f4
 refine qaO (ho4.cell 1 rfl rfl) (ho4.cell 1 rfl rfl) ?_
 refine qq6 (h.deferred.frame (ho.fr.trans f4) fun _ _ h=>nomatch h) hl2 fun defb' F2' w5 p2 f5 n2=>?_
 have ho5:=ho4.frame0 f5
 refine qar (ho5.cell 1 rfl rfl) ?_
 refine qp2 (h.map.frame ho5.fr fun h=>nomatch h) fun mb' w6 em p3 f6=>?_
 have ho6:=ho5.frame0 f6
 refine Own.st' ho6 1 rfl (workV (some ⟨fb',0,none⟩) (some ⟨defb,0,none⟩) (some mb) q.roots).toArray rfl rfl (by rw [List.size_toArray,qaB hr]; exact Nat.le_of_ble_eq_true rfl) fun w7 ho7 f7=>?_
 refine Own.st' ho7 1 rfl (workV (some ⟨fb',0,none⟩) (some ⟨defb',0,none⟩) (some mb) q.roots).toArray rfl rfl (by rw [List.size_toArray,qaB hr]; exact Nat.le_of_ble_eq_true rfl) fun w8 ho8 f8=>?_
 refine Own.st' ho8 1 rfl (workV (some ⟨fb',0,none⟩) (some ⟨defb',0,none⟩) (some mb') q.roots).toArray rfl rfl (by rw [List.size_toArray,qaB hr]; exact Nat.le_of_ble_eq_true rfl) fun w9 ho9 f9=>?_
 have hw:=qaB (x:=some ⟨fb',0,none⟩) (y:=some ⟨defb',0,none⟩) (m:=some mb') hr
 refine qas (ho9.at (i:=1) rfl) (workV (some ⟨fb',0,none⟩) (some ⟨defb',0,none⟩) (some mb') q.roots) hw (by rw [List.drop_zero,List.take_of_length_le (Nat.le_of_eq hw)]) ?_
 refine qak hw ?_
 refine Own.st' ho9 0 rfl (workV (some ⟨fb',0,none⟩) (some ⟨defb',0,none⟩) (some mb') q.roots).toArray (qaZ (by rw [List.size_toArray,hw,qaB (qaC 24)])) (qn3 _ _ _ _) (by rw [List.size_toArray,hw,qaB (qaC 24)]; exact Nat.le_of_ble_eq_true rfl) fun w10 ho10 f10=>?_
 refine qas (ho10.at (i:=0) rfl) (workV (some ⟨fb',0,none⟩) (some ⟨defb',0,none⟩) (some mb') q.roots) hw (by rw [List.drop_zero,List.take_of_length_le (Nat.le_of_eq hw)]) ?_
 have hr1:=qab (ho.at (i:=1) rfl)
 have hr3:=qab (ho.at (i:=0) rfl)
 have g7:Fr [r1,r3] w6 w10:=(((f7.mono fun b hb _=>by rw [List.mem_singleton.1 hb]; simp).trans (f8.mono fun b hb _=>by rw [List.mem_singleton.1 hb]; simp)).trans (f9.mono fun b hb _=>by rw [List.mem_singleton.1 hb]; simp)).trans (f10.mono fun b hb _=>by rw [List.mem_singleton.1 hb]; simp)
 have s4:=f4.size
 have s5:=f5.size
 have s0:=ho.fr.size
 have hrs:∀ b,b∈[r1,r3]->b<wd.heap.size:=fun b hb=>by
  rcases List.mem_cons.1 hb with rfl | hb
  ·exact hr1
  ·rw [List.mem_singleton.1 hb]; exact hr3
 have l1:=p1.lt
 have l2:=p2.lt
 refine hk fb' defb' mb' F1' F2' w10 ?_ ho10.fr fun b hb=>?_
 ·refine ⟨(p1.frame (f5.trans f6) fun _ _ h=>nomatch h).frame g7 (fun b hb hm=>by have:=n1 b hb; have:=hrs b hm; omega),(p2.frame f6 fun _ _ h=>nomatch h).frame g7 (fun b hb hm=>by have:=n2 b hb; have:=hrs b hm; omega),p3.frame g7 (fun hm=>by have:=hrs _ hm; omega),h.fresh,fun e he=>?_,fun b hb hm=>?_,⟨fun hm=>by have:=l1 _ hm; omega,fun hm=>by have:=l2 _ hm; omega,fun b hb hm=>by have:=l1 b hb; have:=n2 b hm; omega⟩,hr⟩
  ·exact (h.bodies e he).frame (ho10.fr.mono fun b hb=>nomatch hb) fun b hb=>.inl hb
  ·have:=hS b hm
   rcases List.mem_cons.1 hb with rfl | hb
   ·omega
   ·rcases List.mem_append.1 hb with hb | hb
    ·have:=n1 b hb; omega
    ·have:=n2 b hb; omega
 ·rcases List.mem_cons.1 hb with rfl | hb
  ·omega
  ·rcases List.mem_append.1 hb with hb | hb
   ·have:=n1 b hb; omega
   ·have:=n2 b hb; omega
end
abbrev MKT:TypeId:=193
def markV (pb:Nat) (turn:Int) (wk:List Value):List Value:=[.pointer (some ⟨pb,0,none⟩),.int .i64 turn]++wk
def MarkAt (w:World) (S:List Nat) (kb pb:Nat) (q:PgM):Prop:=
 ∃ fb defb mb F1 F2 fs,w.heap[kb]?=some (.cells (markV pb q.turn (workV (some ⟨fb,0,none⟩) (some ⟨defb,0,none⟩) (some mb) q.roots)).toArray MKT (0,0))/\WorkAt w S fb defb mb F1 F2 fs q/\kb∉S
theorem MarkAt.frame {w w':World} {S S':List Nat} {kb pb:Nat} {q:PgM} (h:MarkAt w S kb pb q) (f:Fr S w w') (hS:∀ b∈S',b∈S\/w.heap.size<=b):MarkAt w' S' kb pb q:=by
 obtain ⟨fb,defb,mb,F1,F2,fs,hc,hw,hk⟩:=h
 exact ⟨fb,defb,mb,F1,F2,fs,by rw [f.block kb (qab hc) hk]; exact hc,hw.frame f hS,fun hm=>(hS kb hm).elim hk fun h'=>by have:=qab hc; omega⟩
theorem MarkAt.frame0 {w w':World} {S:List Nat} {kb pb:Nat} {q:PgM} (h:MarkAt w S kb pb q) (f:Fr [] w w'):MarkAt w' S kb pb q:=
 h.frame (f.mono fun b hb=>nomatch hb) fun b hb=>.inl hb
theorem qwe:((Tryz.prog.info? MKT).bind (·.zero)).map (fun z=>z.cells.toList)=some ([Value.pointer none,.int .i64 0]++workV none none none (zs 24)):=by kernel_rfl
theorem qrO {p:Option Addr} {t:Int} {x y:Option Addr} {m:Option Nat} {roots:List Int} (hr:roots.length=24) (w:World) :
  (Instr.build MKT #[(0,.pointer p),(1,.int .i64 t),(2,.agg (workV x y m roots).toArray)]).run Tryz.prog w=.ok (.agg ([Value.pointer p,.int .i64 t]++workV x y m roots).toArray) w:=by
 obtain ⟨z,hz,hzs⟩:=Option.map_eq_some_iff.1 qwe
 have hzc:z.cells=([Value.pointer none,.int .i64 0]++workV none none none (zs 24)).toArray:=by rw [<- hzs]
 have hw:=qaB (x:=x) (y:=y) (m:=m) hr
 refine qa2 (parts:=[(0,.pointer p),(1,.int .i64 t),(2,.agg (workV x y m roots).toArray)]) (offs:=#[(0,1),(1,1),(2,27)]) hz (by kernel_rfl) (fun w=>by kernel_rfl) ?_ w
 have hs:(Value.agg (workV x y m roots).toArray).cells.size=27:=by show (workV x y m roots).toArray.size=27; rw [List.size_toArray,hw]
 rw [hzc,qan (o:=0) (s:=1) rfl rfl (Nat.le_of_ble_eq_true rfl),qan (o:=1) (s:=1) rfl rfl (Nat.le_of_ble_eq_true rfl),qan (o:=2) (s:=27) rfl hs (Nat.le_of_ble_eq_true rfl)]
 refine congrArg some ?_
 have:=qap (A:=[Value.pointer p,.int .i64 t]) (X:=workV none none none (zs 24)) (Z:=[]) (Y:=workV x y m roots) (by rw [hw,qaB (qaC 24)])
 rw [List.append_nil,List.append_nil] at this
 exact this
section
variable {w:World} {X:List Nat} {pb:Nat} {db:Option Addr} {F:List Nat} {M:PgM}
theorem qt1 {sup:Sup} {sl sn:Sl} {turn:Int} {over:Bool} {fb defb mb:Nat} {roots:List Int} (hl:sup.2.length=27) (hr:roots.length=24):((pgCells db sup sl sn turn over fb defb mb roots).toList.drop 33).take 27=workV (some ⟨fb,0,none⟩) (some ⟨defb,0,none⟩) (some mb) roots:=by
 have h:((Value.pointer db::supV sup.1 sup.2)++([.slice sl.a sl.len sl.cap,.slice sn.a sn.len sn.cap,.int .i64 turn,.bool over]:List Value)).length=33:=by rw [List.length_append,qa6 hl]; rfl
 rw [<- qbB]
 show (((Value.pointer db::supV sup.1 sup.2)++([.slice sl.a sl.len sl.cap,.slice sn.a sn.len sn.cap,.int .i64 turn,.bool over]:List Value)++workV (some ⟨fb,0,none⟩) (some ⟨defb,0,none⟩) (some mb) roots).drop 33).take 27=_
 rw [<- h,List.drop_left,List.take_of_length_le (by rw [qaB hr]; exact Nat.le_refl _)]
theorem PgX.work {fb defb mb:Nat} {sl sn:Sl} {F1 F2:List Nat} {fs:List (Int×Leaf)} (hx:PgX w X pb db M fb defb mb sl sn F1 F2 fs):WorkAt w [] fb defb mb F1 F2 fs M:=
 ⟨hx.free,hx.deferred,hx.map,hx.fresh,fun e he=>(hx.rows.bodies e he).weak (by simp),fun b hb h=>(nomatch h),⟨fun h=>(hx.sep.2.1 mb h).2.1 rfl,fun h=>(hx.sep.2.2 mb h).2 rfl,fun b hb h=>(hx.sep.2.1 b hb).2.2 h⟩,hx.rootlen⟩
theorem qt3 {K:Option Addr->World->Prop} (h:PagerAt w X pb db F M) (hl1:M.free.length<=1000000) (hl2:M.deferred.length<=1000000)
  (hov:M.over=true->K none w)
  (hk:M.over=false->∀ kb w',MarkAt w' (X++F) kb pb M->Fr [] w w'->K (some ⟨kb,0,none⟩) w') :
  call Tryz.prog 70 [.pointer (some ⟨pb,0,none⟩)] [.one .ptr] w K:=by
 have hlt:=h.lt
 have hxlt:∀ b∈X,b<w.heap.size:=by
  obtain ⟨fb,defb,mb,sl,sn,F1,F2,fs,rfl,hx⟩:=h
  exact hx.xlt
 obtain ⟨fb,defb,mb,sl,sn,F1,F2,fs,rfl,hx⟩:=h
 refine qiX (p:=some ⟨pb,0,none⟩) ?_
 unfold qeU
 refine qac (qae (c:=.bool) hx.cell M.over (qc2 hx.suplen) ?_)
 refine qaa (fun ho=>hov (by simpa using ho)) (fun ho=>?_)
 have hd:=hx.frame0 (Fr.refl [] w).drew
 have fd:Fr [] w w.drew:=(Fr.refl [] w).drew
 generalize World.drew w=wd at hd fd
 refine qac (qae (c:=.int .i64) hd.cell M.turn (qna hx.suplen) ?_)
 refine qac ?_
 simp only [Nat.zero_add]
 refine qas hd.cell (workV (some ⟨fb,0,none⟩) (some ⟨defb,0,none⟩) (some mb) M.roots) (qaB hx.rootlen) (qt1 hx.suplen hx.rootlen) ?_
 refine qnu hd.work hl1 hl2 (fun fb' defb' mb' F1' F2' w2 hW f2 n2=>?_) (fun b hb=>nomatch hb)
 have h2:=hd.frame0 f2
 refine qar (by rw [qaj h2.cell]; exact qna hx.suplen) ?_
 refine qay (ts:=[Ty1.raw]) (markV pb M.turn (workV (some ⟨fb',0,none⟩) (some ⟨defb',0,none⟩) (some mb') M.roots)) (qrO hx.rootlen w2) ?_
 refine Own.new' (Own.start [] w2) fun kb w3 e3 f3 ho3=>?_
 have f02:=fd.trans f2
 refine hk (by simpa using ho) kb w3 ⟨fb',defb',mb',F1',F2',fs,ho3.at (i:=0) rfl,?_,fun hm=>?_⟩ (f02.trans f3)
 ·have hb:∀ b∈X++pb::mb::(F1++F2),b<w.heap.size:=fun b hb=>(List.mem_append.1 hb).elim (hxlt b) (hlt b)
  refine ⟨hW.free.frame f3 fun _ _ h=>(nomatch h),hW.deferred.frame f3 fun _ _ h=>(nomatch h),hW.map.frame f3 fun h=>(nomatch h),hW.fresh,fun e he=>(hx.rows.bodies e he).frame0 (f02.trans f3),fun b hb1 hm=>?_,hW.apart,hW.roots⟩
  have:=n2 b hb1
  have:=hb b hm
  have:=fd.size
  omega
 ·have:kb<w.heap.size:=(List.mem_append.1 hm).elim (hxlt kb) (hlt kb)
  have:=f02.size
  omega
theorem quw {S:List Nat} {m:Option Addr} {q:PgM} {K:Int->World->Prop} (h:PagerAt w X pb db F M) (hS:∀ b∈X++F,b∈S)
  (hm:m≠none->∃ kb,m=some ⟨kb,0,none⟩/\MarkAt w S kb pb q/\q.free.length<=1000000/\q.deferred.length<=1000000)
  (hov:M.over=true->K 7 w) (hno:M.over=false->(m=none\/q.turn≠M.turn)->K 10 w.drew)
  (hk:M.over=false->m≠none->q.turn=M.turn->∀ F' w',PagerAt w' X pb db F' { M with free:=q.free,deferred:=q.deferred,fresh:=q.fresh,roots:=q.roots }->Fr F w w'->(∀ b∈F',b∈F\/w.heap.size<=b)->K 0 w') :
  call Tryz.prog 71 [.pointer (some ⟨pb,0,none⟩),.pointer m] [.one (.int .i64)] w K:=by
 obtain ⟨fb,defb,mb,sl,sn,F1,F2,fs,rfl,hx⟩:=h
 refine qi3 (p:=some ⟨pb,0,none⟩) (m:=m) ?_
 unfold qe3
 refine qac (qae (c:=.bool) hx.cell M.over (qc2 hx.suplen) ?_)
 refine qaa (fun ho=>hov (by simpa using ho)) (fun ho=>?_)
 have ho:M.over=false:=by simpa using ho
 refine qaf (fun b w'=>b=decide (m=none\/q.turn≠M.turn)/\w'=w.drew) ?_ ?_
 ·cases m with
  | none=>exact cond_true rfl ⟨by simp,rfl⟩
  | some a=>
   obtain ⟨kb,e,hM,_⟩:=hm (by simp)
   obtain rfl:=Option.some.inj e
   obtain ⟨fb',defb',mb',F1',F2',fs',hc,hW,_⟩:=hM
   refine cond_false rfl ?_
   refine qac (qae (w:=w.drew) (c:=.ptr) hc (some ⟨pb,0,none⟩) rfl ?_)
   refine qu8 (d:=100) (by kernel_rfl) (by kernel_rfl) (by kernel_rfl) ?_
   refine cond_false rfl ?_
   refine qac (qae (w:=w.drew) (c:=.int .i64) hc q.turn rfl ?_)
   refine qac (qae (w:=w.drew) (c:=.int .i64) hx.cell M.turn (qna hx.suplen) ?_)
   refine ⟨?_,rfl⟩
   by_cases e:q.turn=M.turn
   ·simp [e]
   ·simp [e]
 rintro b w1 ⟨rfl,rfl⟩
 refine qaa (fun hc=>?_) (fun hc=>?_)
 ·exact hno ho (of_decide_eq_true hc)
 ·have hc:=of_decide_eq_false hc
  have hmn:m≠none:=fun e=>hc (.inl e)
  have htq:q.turn=M.turn:=Classical.byContradiction fun e=>hc (.inr e)
  obtain ⟨kb,rfl,hM,hl1,hl2⟩:=hm hmn
  obtain ⟨fb',defb',mb',F1',F2',fs',hcc,hW,_⟩:=hM
  have fd:Fr [] w w.drew:=(Fr.refl [] w).drew
  have hxd:=hx.frame0 fd
  have hcd:w.drew.heap[kb]?=some (.cells (markV pb q.turn (workV (some ⟨fb',0,none⟩) (some ⟨defb',0,none⟩) (some mb') q.roots)).toArray MKT (0,0)):=hcc
  have hWd:=hW.frame (S':=S) (fd.mono fun b hb=>nomatch hb) fun b hb=>.inl hb
  have sd:w.drew.heap.size=w.heap.size:=rfl
  generalize World.drew w=wd at hxd hcd hWd fd sd
  refine qac ?_
  have hw':=qaB (x:=some ⟨fb',0,none⟩) (y:=some ⟨defb',0,none⟩) (m:=some mb') hW.roots
  refine qas (off:=0+2) hcd (workV (some ⟨fb',0,none⟩) (some ⟨defb',0,none⟩) (some mb') q.roots) hw' (by
   show (workV (some ⟨fb',0,none⟩) (some ⟨defb',0,none⟩) (some mb') q.roots).take 27=_
   rw [List.take_of_length_le (Nat.le_of_eq hw')]) ?_
  have hWe:WorkAt wd [] fb' defb' mb' F1' F2' fs' q:=⟨hWd.free,hWd.deferred,hWd.map,hWd.fresh,fun e he=>(hWd.bodies e he).weak (by simp),fun b hb h=>(nomatch h),hWd.apart,hWd.roots⟩
  refine qnu hWe hl1 hl2 (fun fb2 defb2 mb2 G1 G2 w2 hW2 f2 n2=>?_) (fun b hb=>nomatch hb)
  have h2:=hxd.frame0 f2
  refine qac (qak (qaB hW.roots) ?_)
  have ho2:Own [pb] w2 w2 [(pb,.cells (pgCells db M.sup sl sn M.turn M.over fb defb mb M.roots) PGT (0,0))]:=⟨by simpa using h2.cell,by simp,.refl _ _,by simp⟩
  refine Own.st' ho2 0 rfl (pgCells db M.sup sl sn M.turn M.over fb2 defb2 mb2 q.roots) (by rw [<- qbB,<- qbB]; exact qpC hx.suplen (by rw [qaB hx.rootlen,qaB hW.roots])) (qn3 _ _ _ _) (by rw [qrj hx.suplen,qaB hW.roots,hx.rootlen]; exact Nat.le_of_ble_eq_true rfl) fun w3 ho3 f3=>?_
  have fw2:=fd.trans f2
  have hnew:∀ b∈mb2::(G1++G2),w.heap.size<=b:=fun b hb=>by have:=n2 b hb; omega
  have hpl:=qab hx.cell
  have hne:∀ b∈mb2::(G1++G2),b∉[pb]:=fun b hb hm=>by have:=hnew b hb; rw [List.mem_singleton.1 hm] at this; omega
  have f03:Fr [pb] w w3:=(fw2.mono fun b hb=>nomatch hb).trans f3
  have hXl:∀ b∈X,b<w.heap.size:=hx.xlt
  have hXF:∀ b∈X++pb::mb2::(G1++G2),b∈X++pb::mb::(F1++F2)\/w.heap.size<=b:=fun b hb=>by
   rcases List.mem_append.1 hb with hb | hb
   ·exact .inl (List.mem_append_left _ hb)
   ·rcases List.mem_cons.1 hb with rfl | hb
    ·exact .inl (List.mem_append_right _ (by simp))
    ·exact .inr (hnew b hb)
  have f03X:Fr (X++pb::mb::(F1++F2)) w w3:=f03.mono fun b hb _=>by rw [List.mem_singleton.1 hb]; exact List.mem_append_right _ (by simp)
  refine hk ho hmn htq (pb::mb2::(G1++G2)) w3 ⟨fb2,defb2,mb2,sl,sn,G1,G2,fs',rfl,{
   cell:=ho3.at (i:=0) rfl
   free:=hW2.free.frame f3 fun b hb=>hne b (by simp [hb])
   deferred:=hW2.deferred.frame f3 fun b hb=>hne b (by simp [hb])
   map:=hW2.map.frame f3 (hne mb2 (by simp))
   fresh:=hW2.fresh
   rows:=⟨hx.rows.lists.frame f03X hXF,hx.rows.named.frame f03X hXF,fun e he=>?_⟩
   xlt:=fun b hb=>Nat.lt_of_lt_of_le (hXl b hb) f03.size
   xsep:=fun b hb hm=>?_
   sep:=⟨fun e=>hne mb2 (by simp) (by simp [e]),fun b hb=>⟨fun e=>hne b (by simp [hb]) (by simp [e]),fun e=>hW2.apart.1 (e▸hb),hW2.apart.2.2 b hb⟩,fun b hb=>⟨fun e=>hne b (by simp [hb]) (by simp [e]),fun e=>hW2.apart.2.1 (e▸hb)⟩⟩
   suplen:=hx.suplen
   rootlen:=hW.roots }⟩ (f03.mono fun b hb _=>by rw [List.mem_singleton.1 hb]; simp) fun b hb=>?_
  ·have hb1:=hW.bodies e he
   refine hb1.frame (f03.mono fun b hb _=>by rw [List.mem_singleton.1 hb]; exact hS pb (List.mem_append_right _ (by simp))) fun b hb=>?_
   rcases hXF b hb with hb | hb
   ·exact .inl (hS b hb)
   ·exact .inr hb
  ·rcases List.mem_cons.1 hm with rfl | hm
   ·exact hx.xsep b hb (by simp)
   ·have:=hnew b hm; have:=hXl b hb; omega
  ·rcases List.mem_cons.1 hb with rfl | hb
   ·exact .inl (by simp)
   ·exact .inr (hnew b hb)
end
end
theorem quf {S:List Nat} {w:World} {d:RDv} {D:DiskM} {n:Int} {K:RDv->World->Prop} (h:RD S w d D) (hk:∀ d' w',RD S w' d' (fuseM D n)->Fr [] w w'->K d' w') :
  call Tryz.prog 73 [.agg (rdC d),.int .i64 n] [.agg dC] w K:=by
 obtain ⟨d0,d1,d2,d3,d4⟩:=d
 have hdn:d3=D.down:=h.down
 refine qdB (d0:=d0) (d1:=d1) (d2:=d2) (d3:=d3) (d4:=d4) ?_
 unfold qbP
 refine Own.new' (Own.start [] w) fun r1 w1 e1 f1 ho=>?_
 refine Own.new' ho fun r3 w2 e2 f2 ho=>?_
 refine Own.ld (c:=.bool) ho 1 rfl d3 rfl ?_
 refine qaa (fun hc=>?_) (fun hc=>?_)
 ·refine qb9 (d:=(d0,d1,d2,d3,d4)) (d0:=zD) (K:=K) ho 1 0 rfl rfl fun w3 f3 _=>?_
  refine hk _ w3 ?_ f3
  rw [fuseM,if_pos (by rw [<- hdn]; exact hc)]
  exact h.frame0 f3
 ·have hd:¬ D.down=true:=by rw [<- hdn,hc]; decide
  refine qaf (fun y w'=>y=(if n<0 then -1 else n)/\w'=w2) ?_ ?_
  ·refine qaa (fun hc=>⟨by rw [if_pos (of_decide_eq_true hc)],rfl⟩) (fun hc=>⟨by rw [if_neg (of_decide_eq_false hc)],rfl⟩)
  rintro y w3 ⟨rfl,rfl⟩
  refine Own.st' ho 1 rfl (rdC (d0,d1,if n<0 then -1 else n,d3,d4)) rfl rfl (Nat.le_of_ble_eq_true rfl) fun w4 ho4 f4=>?_
  refine qb9 (d:=(d0,d1,if n<0 then -1 else n,d3,d4)) (d0:=zD) (K:=K) ho4 1 0 rfl rfl fun w5 f5 _=>?_
  refine hk _ w5 ?_ f5
  rw [fuseM,if_neg hd]
  exact ⟨h.safe.frame0 f5,h.waits.frame0 f5,rfl,h.down,h.writes⟩
theorem qpO {w:World} {n:Int} {K:Int->World->Prop} (hk:K (bnd n) w):call Tryz.prog 112 [.int .i64 n] [.one (.int .i64)] w K:=by
 refine qgB ?_
 unfold qdm
 unfold bnd at hk
 refine qaa (fun hc=>?_) (fun hc=>?_)
 ·rw [if_pos (of_decide_eq_true hc)] at hk; exact hk
 have h1:=of_decide_eq_false hc
 rw [if_neg h1] at hk
 refine qaa (fun hc=>?_) (fun hc=>?_)
 ·rw [if_pos (of_decide_eq_true hc)] at hk; exact hk
 ·rw [if_neg (of_decide_eq_false hc),show ((n.toNat:Nat):Int)=n by omega] at hk; exact hk
theorem qql {old new:Blk} {f t:Nat} (hf:f<t) (ht:t<=512):(overlayB old new f t).1=(old.1.take f).drop 0++(new.1.take t).drop f++(old.1.take old.1.length).drop t:=by
 rw [overlayB,dif_pos ⟨hf,ht⟩,List.drop_zero,List.take_length,List.drop_take]
theorem qti {S:List Nat} {w:World} {d:RDv} {D:DiskM} {sl:Sl} {ls:List (Int×Int)} {K:RDv->World->Prop} (h:RD S w d D) (hD:D.Ok) (hS:∀ b∈S,b<w.heap.size) (hl:Rds encLoss 2 S w sl ls)
  (hk:∀ d' w',RD S w' d' (crashM D ls)->Fr [] w w'->K d' w') :
  call Tryz.prog 74 [.agg (rdC d),.slice sl.a sl.len sl.cap] [.agg dC] w K:=by
 obtain ⟨d0,d1,d2,d3,d4⟩:=d
 have hwt:=hD.waits
 have hsf:=hD.safe
 have hls:=hl.1
 refine qei (d0:=d0) (d1:=d1) (d2:=d2) (d3:=d3) (d4:=d4) (l:=sl) ?_
 unfold qce
 refine Own.new' (Own.start [] w) fun r1 w1 e1 f1 ho=>?_
 refine Own.new' ho fun r3 w4 e2 f2 ho4=>?_
 have f04:=ho4.fr
 have hr1w:w.heap.size<=r1/\w.heap.size<=r3:=by have:=f1.size; omega
 have h4:RD (r1::r3::S) w4 (d0,d1,d2,d3,d4) D:=h.frame (f04.mono fun b hb=>by cases hb) fun b hb=>by
  simp only [List.mem_cons] at hb
  rcases hb with rfl | rfl | hb
  ·exact .inr hr1w.1
  ·exact .inr hr1w.2
  ·exact .inl hb
 have hl4:Rds encLoss 2 [] w4 sl ls:=(hl.weak (S':=[]) (by simp)).frame0 f04
 have hs4:Rds encBlkS 1 (r1::r3::S) w4 d0 D.safe:=h4.safe
 have hw4:Rds encWtS 2 (r1::r3::S) w4 d1 D.waits:=h4.waits
 have hwl:d1.len=D.waits.length:=hw4.1
 refine Own.new' ho4 fun r5 w5 e5 f5 ho5=>?_
 refine Own.ld (c:=.slice) ho5 2 rfl d0 rfl ?_
 refine qnA (S:=[]) ((hs4.weak (fun b hb=>by cases hb)).frame0 f5) (ho5.at (i:=0) rfl) (by omega) fun s6 B6 w6 b6 f6 n6=>?_
 have ho5':=ho5.sub (L':=[(r3,.cells (rdC zD) RDT (0,0)),(r1,.cells (rdC (d0,d1,d2,d3,d4)) RDT (0,0))]) (List.Sublist.cons _ (List.Sublist.refl _))
 have l3:=qab (ho4.at (i:=0) rfl)
 have l1:=qab (ho4.at (i:=1) rfl)
 have h5w:w.heap.size<=r5:=by have:=ho4.fr.size; omega
 have ho6:=ho5'.frame f6 (fun b hb=>by simp at hb; subst hb; exact .inr h5w) (fun p hp hb=>by
  simp only [List.mem_cons,List.not_mem_nil,or_false] at hp hb
  rcases hp with rfl | rfl <;> (dsimp only at hb; omega))
 have nB6:∀ b∈B6,w.heap.size<=b/\b≠r1/\b≠r3/\w4.heap.size<=b:=fun b hb=>by
  have:w4.heap.size<=b:=by
   rcases n6 b hb with h | h
   ·omega
   ·have:=f5.size; omega
  have:=ho4.fr.size
  exact ⟨by omega,by omega,by omega,by omega⟩
 refine Own.st' ho6 1 rfl (rdC (s6,d1,d2,d3,d4)) rfl rfl (Nat.le_of_ble_eq_true rfl) fun w7 ho7 f7=>?_
 have b7:=b6.frame f7 (fun b hb=>by simpa using (nB6 b hb).2.1)
 refine qag (fun x w'=>∃ i:Nat,x=i/\i<=D.waits.length/\i<=ls.length/\Own [] w w' [(r3,.cells (rdC zD) RDT (0,0)),(r1,.cells (rdC (s6,d1,d2,d3,d4)) RDT (0,0))]/\Buf encBlkS 1 w' s6 (((D.waits.zip ls).take i).foldl crashStep D.safe) B6/\Fr (r1::B6) w4 w') (fun x _=>((D.waits.length:Int)-x).toNat) ⟨0,rfl,by omega,by omega,ho7,b7,?_⟩ ?_
 ·refine ((f5.mono fun b hb=>by cases hb).trans' f6 fun b hb=>?_).trans' (f7.mono (T:=r1::B6) fun b hb _=>by simp at hb; subst hb; simp) fun b hb=>.inl hb
  simp at hb; subst hb; exact .inr (by omega)
 rintro x w8 ⟨i,rfl,hi,hi2,ho8,b8,f8⟩ X hX
 have hw8:Rds encWtS 2 [] w8 d1 D.waits:=by
  have:Rds encWtS 2 (r1::B6) w4 d1 D.waits:=hw4.frame (Fr.refl _ _) (fun b hb=>by
   simp only [List.mem_cons] at hb
   rcases hb with rfl | hb
   ·exact .inl (by simp)
   ·exact .inr (nB6 b hb).2.2.2)
  exact (this.frame f8 (fun b hb=>.inl hb)).weak (fun b hb=>by cases hb)
 have hl8:Rds encLoss 2 [] w8 sl ls:=by
  have:Rds encLoss 2 (r1::r3::S) w4 sl ls:=hl.frame (f04.mono fun b hb=>by cases hb) fun b hb=>by
   simp only [List.mem_cons] at hb
   rcases hb with rfl | rfl | hb
   ·exact .inr hr1w.1
   ·exact .inr hr1w.2
   ·exact .inl hb
  have:Rds encLoss 2 (r1::B6) w4 sl ls:=this.frame (Fr.refl _ _) (fun b hb=>by
   simp only [List.mem_cons] at hb
   rcases hb with rfl | hb
   ·exact .inl (by simp)
   ·exact .inr (nB6 b hb).2.2.2)
  exact (this.frame f8 (fun b hb=>.inl hb)).weak (fun b hb=>by cases hb)
 refine qaf (fun b w'=>b=decide (i<D.waits.length/\i<ls.length)/\w'=w8) ?_ ?_
 ·refine Own.ld (c:=.slice) ho8 1 rfl d1 rfl ?_
  rw [hwl,hls]
  refine qaa (fun hc=>?_) (fun hc=>?_)
  ·have h1:=of_decide_eq_true hc
   exact ⟨decide_eq_decide.2 ⟨fun h=>by omega,fun h=>by omega⟩,rfl⟩
  ·have h1:=of_decide_eq_false hc
   exact ⟨(decide_eq_false fun h=>by omega).symm,rfl⟩
 rintro b w9 ⟨rfl,rfl⟩
 refine qaa (fun hc3=>?_) (fun hc3=>?_)
 ·obtain ⟨hil,hils⟩:=of_decide_eq_true hc3
  have hat:=hD.at_ _ (List.getElem_mem hil)
  have hzi:i<(D.waits.zip ls).length:=by rw [List.length_zip]; omega
  have hstep:((D.waits.zip ls).take (i+1)).foldl crashStep D.safe=crashStep (((D.waits.zip ls).take i).foldl crashStep D.safe) (D.waits[i],ls[i]):=by
   rw [List.take_succ_eq_append_getElem hzi,List.foldl_append,List.getElem_zip]
   rfl
  have hlenF:=qdc ((D.waits.zip ls).take i) D.safe
  generalize hSS:((D.waits.zip ls).take i).foldl crashStep D.safe=SS at b8 hstep hlenF
  have hpl:D.waits[i].1.toNat<SS.length:=by omega
  have hgd:SS.getD D.waits[i].1.toNat .zero=SS[D.waits[i].1.toNat]:=by rw [List.getD_eq_getElem?_getD,List.getElem?_eq_getElem hpl]; rfl
  have hbf:=qmO ls[i].1
  have hbt:=qmO ls[i].2
  refine qaf (fun _ w'=>Own [] w w' [(r3,.cells (rdC zD) RDT (0,0)),(r1,.cells (rdC (s6,d1,d2,d3,d4)) RDT (0,0))]/\Buf encBlkS 1 w' s6 (((D.waits.zip ls).take (i+1)).foldl crashStep D.safe) B6/\Fr (r1::B6) w4 w') ?_ ?_
  ·refine Own.ld (c:=.slice) ho8 1 rfl d1 rfl ?_
   refine Rds.getA hw8 i (cl:=[.int .i64,.str]) rfl (List.getElem?_eq_getElem hil) rfl (y:=(D.waits[i].1,strOf D.waits[i].2.1)) rfl ?_
   refine Own.newSt ho8 (cs':=#[.int .i64 D.waits[i].1,.string (strOf D.waits[i].2.1)]) rfl rfl (Nat.le_of_ble_eq_true rfl) fun r22 w10 e10 ho10 f10=>?_
   have hl10:=(hl8.frame0 f10).drew
   have ho10d:=ho10.drew
   have b10:=(b8.frame0 f10).frame0 (Fr.refl [] w10).drew
   have f10d:Fr (r1::B6) w4 w10.drew:=(f8.trans (f10.mono fun b hb=>nomatch hb)).drew
   generalize World.drew w10=wd at hl10 ho10d b10 f10d
   obtain ⟨hn2,bb,oo,ha,_,lcs,lT,lfr,hbk,hcs⟩:=hl10.at i (List.getElem?_eq_getElem hils)
   have c0:lcs[oo+i*2]?=some (.int .i64 ls[i].1):=by
    have:=congrArg (·[0]?) hcs
    simpa [encLoss] using this
   have c1:lcs[oo+i*2+1]?=some (.int .i64 ls[i].2):=by
    have:=congrArg (·[1]?) hcs
    simpa [encLoss] using this
   refine qaX ha ⟨by omega,by omega⟩ ?_
   rw [Int.toNat_natCast]
   refine qae (c:=.int .i64) hbk ls[i].1 c0 ?_
   refine qaX ha ⟨by omega,by omega⟩ ?_
   rw [Int.toNat_natCast]
   refine qae (c:=.int .i64) hbk ls[i].2 c1 ?_
   refine qpO ?_
   refine qar (by rw [qaj hbk]; exact c1) ?_
   refine qpO ?_
   have back:∀ {w':World},Own [] w w' [(r22,.cells #[.int .i64 D.waits[i].1,.string (strOf D.waits[i].2.1)] 150 (0,0)),(r3,.cells (rdC zD) RDT (0,0)),(r1,.cells (rdC (s6,d1,d2,d3,d4)) RDT (0,0))]->Own [] w w' [(r3,.cells (rdC zD) RDT (0,0)),(r1,.cells (rdC (s6,d1,d2,d3,d4)) RDT (0,0))]:=fun ho=>ho.sub (List.Sublist.cons _ (List.Sublist.refl _))
   refine qaa (fun hlt=>?_) (fun hlt=>?_)
   ·have hlt':bnd ls[i].1<bnd ls[i].2:=by have:=of_decide_eq_true hlt; omega
    refine Own.ld (c:=.slice) ho10d 2 rfl s6 rfl ?_
    refine Own.ld (c:=.int .i64) ho10d 0 rfl D.waits[i].1 rfl ?_
    have hrs:=b10.rds (S:=[]) qba fun b hb hm=>nomatch hm
    refine Rds.get (c:=.str) (y:=strOf SS[D.waits[i].1.toNat].1) hrs D.waits[i].1.toNat (by omega) (List.getElem?_eq_getElem hpl) rfl ?_
    have ho11:=ho10d.drew
    have b11:=b10.frame0 (Fr.refl [] wd).drew
    have f11:=f10d.drew
    generalize World.drew wd=we at ho11 b11 f11
    refine Own.ld (c:=.slice) ho11 2 rfl s6 rfl ?_
    refine Own.ld (c:=.int .i64) ho11 0 rfl D.waits[i].1 rfl ?_
    have hO:=SS[D.waits[i].1.toNat].2
    have hW:=D.waits[i].2.2
    refine qao 0 (bnd ls[i].1) rfl rfl (by omega) (by omega) ?_
    refine Own.ld (c:=.str) ho11 0 rfl (strOf D.waits[i].2.1) rfl ?_
    refine qao (bnd ls[i].1) (bnd ls[i].2) rfl rfl (by omega) (by omega) ?_
    have hmx:IntKind.max IntKind.i64=9223372036854775807:=rfl
    refine qak (by rw [qai,qai,hmx]; simp only [List.length_drop,List.length_take]; omega) ?_
    refine qao (bnd ls[i].2) SS[D.waits[i].1.toNat].1.length rfl rfl (by omega) (Nat.le_refl _) ?_
    rw [qaA]
    refine qak (by rw [qai,qai,hmx]; simp only [List.length_append,List.length_drop,List.length_take]; omega) ?_
    rw [qaA,<- qql hlt' hbt]
    refine qtp (x:=overlayB SS[D.waits[i].1.toNat] D.waits[i].2 (bnd ls[i].1) (bnd ls[i].2)) (i:=D.waits[i].1.toNat) b11 hpl (by omega) qba rfl rfl fun w12 b12 f12=>?_
    refine ⟨(back ho11).frame f12 (fun b hb=>.inr (nB6 b hb).1) (fun p hp hb=>?_),?_,f11.trans (f12.mono fun b hb _=>List.mem_cons_of_mem _ hb)⟩
    ·have:=nB6 _ hb
     simp only [List.mem_cons,List.not_mem_nil,or_false] at hp
     rcases hp with rfl | rfl
     ·exact this.2.2.1 rfl
     ·exact this.2.1 rfl
    ·rw [hstep,crashStep,hgd]
     exact b12
   ·have hlt':¬ bnd ls[i].1<bnd ls[i].2:=by have:=of_decide_eq_false hlt; omega
    refine ⟨back ho10d,?_,f10d⟩
    rw [hstep,crashStep,hgd,qjg hlt',List.set_getElem_self hpl]
    exact b10
  rintro _ w10 ⟨ho10,b10,f10⟩
  rw [wi' _ (by omega)]
  exact hX _ _ ⟨i+1,by simp,by omega,by omega,ho10,b10,f10⟩ (by omega)
 ·have hie:=of_decide_eq_false hc3
  have hze:(D.waits.zip ls).take i=D.waits.zip ls:=List.take_of_length_le (by rw [List.length_zip]; omega)
  rw [hze] at b8
  refine Own.st' ho8 1 rfl (rdC (s6,⟨none,0,0⟩,d2,d3,d4)) rfl rfl (Nat.le_of_ble_eq_true rfl) fun w9 ho9 f9=>?_
  refine Own.st' ho9 1 rfl (rdC (s6,⟨none,0,0⟩,d2,false,d4)) rfl rfl (Nat.le_of_ble_eq_true rfl) fun w10 ho10 f10=>?_
  refine Own.st' ho10 1 rfl (rdC (s6,⟨none,0,0⟩,-1,false,d4)) rfl rfl (Nat.le_of_ble_eq_true rfl) fun w11 ho11 f11=>?_
  refine qb9 (d:=(s6,⟨none,0,0⟩,-1,false,d4)) (d0:=zD) (K:=K) ho11 1 0 rfl rfl fun w12 f12 g12=>?_
  have nr1:∀ b∈B6,b∉[r1]:=fun b hb=>by simpa using (nB6 b hb).2.1
  have b12:=(((b8.frame f9 nr1).frame f10 nr1).frame f11 nr1).frame g12 (fun b hb=>by simpa using (nB6 b hb).2.2.1)
  exact hk _ w12 ⟨b12.rds qba (fun b hb hm=>by have:=hS b hm; have:=nB6 b hb; omega),.nil _ _ _ _,rfl,rfl,h.writes⟩ f12
end Go.Proofs.YtmbcedengdoamaaGreatDoor
end
