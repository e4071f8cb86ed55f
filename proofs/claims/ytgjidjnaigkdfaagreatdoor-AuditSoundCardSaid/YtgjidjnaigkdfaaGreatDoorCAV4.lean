/- Conditions: those that stand in each line. -/
import Derived.Test.YtgjidjnaigkdfaaGreatDoorCAV3
import Derived.Test.YtgjidjnaigkdfaaGreatDoorCAV1
import Derived.Test.YtgjidjnaigkdfaaGreatDoorCAV2
import Derived.Lib.Bytealg
import Derived.Lib.BytesEntry
import Derived.Laws.IdiomStrings
import Derived.Laws.BytesString
set_option linter.unusedVariables false
set_option linter.unusedSimpArgs false
namespace Go.Proofs.YtgjidjnaigkdfaaGreatDoor
open Go.Proofs.Tryz (prog)
section
open Go Go.Pt List
open Go.IntKind (wrap)
attribute [local irreducible] ld ldA ldV fld fldA newZ st new idx idxS idxA slc slcS slcP mkS chk nn call callV inv run runQ runU join loop held ext rng undefer s2a nxt ent IntKind.wrap
variable {D:DiskM} {F S:List Nat} {K:ByteArray->Prop} {M:PgM} {body l l' named numbers pages:List Int} {db:Option Addr} {n:Int} {s:Sl} {w:World}
structure PgM.Wf (M:PgM):Prop where
 n4:M.sup.2.getD 0 0<=4096
 u32:∀ x∈M.sup.2,U32 x
 roots:∀ x∈M.roots,U32 x
 namedS:M.named.Pairwise (· < ·)
 named:∀ x∈M.named,2<=x/\x<M.sup.2.getD 0 0
 freeS:M.free.Pairwise (· < ·)
 defS:M.deferred.Pairwise (· < ·)
 nodup:(M.free++(M.deferred++(M.lists++M.fresh.map (·.1)))).Nodup
 range:∀ x∈M.free++(M.deferred++(M.lists++M.fresh.map (·.1))),2<=x/\x<M.sup.2.getD 0 0
 body:∀ e∈M.fresh,(0<=e.2.1/\e.2.1<256)/\e.2.2.length<=500/\IsB e.2.2
theorem qn3(u:l.Nodup)(h:∀x∈l,2<=x/\x<n)(y:n<=4096):l.length<=4096:=by rcases qbK u h with h|h;omega;rw[h];simp
theorem PgM.Wf.all(M:PgM)(h:M.Wf):M.free.length+M.deferred.length+M.lists.length+M.fresh.length<=4096:=by
 have:=qn3 h.nodup h.range h.n4
 simp only[zF,zK] at this;omega
theorem PgM.Wf.named4(h:M.Wf):M.named.length<=4096:=qn3 (qbI h.namedS) h.named h.n4
section
variable {w:World} {X:List Nat} {pb:Nat} {db:Option Addr} {F:List Nat} {M:PgM}
theorem Rds.part3{α:Type}{enc:α->List Value}{k:Nat}{w:World}{l:List α}(h:Rds enc k S w s l){hi:Int}(b:Nat){K:Sl->Prop}(y:hi=b)(U:b<=l.length)(E:∀C,Rds enc k S w C (l.take b)->K C):slc s none (some hi) (some hi) k K:=by
 subst y;obtain⟨V,h2,z⟩:=h;unfold slc;refine⟨by simp;omega,E _ ?_⟩;simp only[xS,xR,Int.toNat_zero,zJ,Nat.zero_mul,Nat.sub_zero];have e:(if b=0 then s.a else s.a.map (·.add 0))=s.a:=by
  split;rfl;cases s.a with
  | none=>rfl
  | some a=>simp[qh5]
 rw[e];refine⟨by rw[yK];dsimp only;omega,zM _,?_⟩;rcases z with z|⟨G,o,I,T,J,O,A,Q,R⟩;left;rw[z];simp;refine .inr ⟨G,o,I,T,J,O,A,Q,fun i x u=>?_⟩;rw[xA] at u;split at u;exact R i x u;cases u
theorem qkQ{w:World}{K:Sl->WP}(h:Rd S w s l)(Q:l.length<=1000000)(E:∀u B w',BufU w' u l B->Fr [] w w'->(∀b∈B,w.heap.size<=b)->K u w'):cW 48 [s.v] [.one .slice] w K:=by
 obtain⟨R,hi,hz,U,V⟩:=qc2;have G:=h.1;refine qc9 ?_;unfold qcq;apply qaa<;>intro I;have hn:s.a=none:=(oP I);have:l=[]:=by rcases h.2.2 with h|⟨b,o,cs,T,fr,J,_⟩;exact h;rw[hn] at J;cases J
 subst this;exact E ⟨none,0,0⟩ [] w (.nil _ _ _) (.refl _ _) oL;refine oB (oE [] w) fun y w1 et A ho=>?_;have C:BufU w1 ⟨pW y,0,0⟩ [] [y]:=.inr ⟨y,0,_,_,rfl,rfl,rfl,ho.at (i:=0) rfl,rfl,zM _,oL,oL⟩;refine qol (s:=⟨pW y,0,0⟩) (src:=s) C (h.frame0 A) (oP Q) fun u B' w' O f' n'=>?_;rw[xG] at O;refine E u B' w' O (A.trans' f' fun b z=>by simp at z;subst z;exact .inr oJ) fun b z=>?_;rcases n' b z with h|h;simp at h;subst h;omega;exact zL A.size h
theorem qso{K:Sl->WP}(h:PagerAt w X pb db F M)(y:M.lists.length<=1000000)(z:∀s B w',BufU w' s M.lists B->Fr [] w w'->(∀b∈B,w.heap.size<=b)->K s w'): cW 15 [.pointer (pW pb)] [.one .slice] w K:=by obtain⟨fb,defb,mb,sl,sn,A,C,E,rfl,u⟩:=h;refine qg9 ?_;unfold qdT;refine qae (qag u.cell sl (qhf u.suplen) ?_);exact qkQ u.rows.lists y z
theorem qrd{K:Int->WP}(h:PagerAt w X pb db F M)(z:U32 (M.sup.2.getD 0 0))(y:K (M.sup.2.getD 0 0) w):cW 16 [.pointer (pW pb)] [.one .i] w K:=by obtain⟨fb,defb,mb,sl,sn,A,C,E,rfl,u⟩:=h;refine qgl ?_;unfold qdi;refine qae (qag u.cell (M.sup.2.getD 0 0) (qlF u.suplen 0) ?_);rw[wi' _ oJ];exact y
theorem PagerAt.xlt{w:World}{X:List Nat}{pb:Nat}{db:Option Addr}{F:List Nat}{M:PgM}(h:PagerAt w X pb db F M):∀b∈X,b<w.heap.size:=by obtain⟨fb,defb,mb,sl,sn,y,z,A,rfl,u⟩:=h;exact u.xlt
theorem qsl{K:Unit->WP}(h:PagerAt w X pb db F M)(A:0<=M.turn/\M.turn<=1000000000)(C:M.named.length<=100000)(E:∀F' w',PagerAt w' X pb db F' (begunM M.sup M.lists M.named (M.turn+1) M.over (insAll M.named))->Fr F w w'->(∀b∈F',b∈F\/w.heap.size<=b)->K () w'): cW 29 [.pointer (pW pb)] [] w K:=by
 obtain⟨fb,defb,mb,sl,sn,G,I,O,rfl,y⟩:=h;refine qg7 ?_;unfold qdR;have z:∀b∈X++[pb],b∈X++pb::mb::(G++I):=fun b u=>by rcases zD.1 u with h|h;exact zH _ h;simp at h;subst h;simp
 exact qfj (X:=X) (wk:=workV (pW fb) (pW defb) (some mb) M.roots) (by rw[qbp];exact y.cell) y.suplen (qau y.rootlen) A (fun b u=>⟨y.xlt b u,fun e=>y.xsep b u (by rw[e];simp)⟩) (y.rows.lists.weak fun b u=>.inl (z b u)) (y.rows.named.weak fun b u=>.inl (z b u)) C fun F' w' J f n=>E F' w' J (f.mono fun b u _=>by simp at u;subst u;simp) fun b u=>by rcases n b u with h|h;exact .inl (by rw[h];simp);exact .inr h
theorem qtV{K:Sl×Sl×Bool->WP}(h:PagerAt w X pb db F M)(hW:M.Wf)(ai:planM M=none->∀w',Fr [] w w'->K (⟨none,0,0⟩,⟨none,0,0⟩,false) w')(hk:∀sp sn pages named w',planM M=some (pages,named)->Fr [] w w'->(∀G:List Nat,(∀b∈G,b<w.heap.size)->Rd G w' sp pages/\Rd G w' sn named)->K (sp,sn,true) w'): cW 50 [.pointer (pW pb)] [.one .slice,.one .slice,.one .bool] w K:=by
 have ax:=PgM.Wf.all M hW;obtain⟨fb,defb,mb,sl,sn,F1,F2,fs,rfl,A⟩:=h;refine qhV ?_;unfold qel;refine qae (qag A.cell (pW fb) (qeA A.suplen) ?_);refine qqv A.free oJ fun s1 y t1 f1=>?_;obtain⟨B1,b1,n1⟩:=qpG t1;have U:Fr [] w y.drew:=f1.drew;have C:=A.frame0 U;refine qae (qag (w:=y.drew) (c:=.ptr) C.cell (pW defb) (qlE A.suplen) ?_);refine qae (qag (w:=y.drew) (c:=.slice) C.cell sl (qhf A.suplen) ?_);refine qqv C.deferred oJ fun s2 w2 t2 f2=>?_;obtain⟨B2,b2,n2⟩:=qpG t2;have V:=U.trans f2;have aa:=A.frame0 V;refine qai (by show _=_;rw[qah aa.cell];exact qhf A.suplen)<|qol b2 aa.rows.lists oJ fun s3 B3 w3 b3 f3 n3=>?_;have E:∀b∈B1,b<y.drew.heap.size:=fun b u=>(b1.frame0 (Fr.refl [] y).drew).lt b u;have am:=(b1.frame0 (Fr.refl [] y).drew).frame0 f2;have I:BufU w3 s1 M.free B1:=am.frame f3 (fun b u z=>by have:=E b u;have:=n2 b z;omega);have aN:w.heap.size<=y.heap.size:=f1.size;have aO:=f2.size;have aP:y.drew.heap.size=y.heap.size:=rfl;have J:∀b∈B3,y.drew.heap.size<=b:=fun b u=>by rcases n3 b u with h|h;exact n2 b h;omega
 have ab:Fr [] w w3:=V.trans' f3 fun b u=>.inr (by have:=n2 b u;omega);have l1:=I.len;have l3:=b3.len;rw[zF] at l3;rw[wi' _ oJ];have e:(s1.len:Int)+(s3.len:Int)=((M.free.length+(M.deferred++M.lists).length:Nat):Int):=(by rw[zF];omega);rw[e];refine qn8 (by rw[zF];omega) ?_;generalize ac:needP (M.free.length+(M.deferred++M.lists).length)=k;apply qaa<;>intro hc
 have:=zC hc
 exact ai (by rw[planM,ac,iP]) w3 ab;have ad:k<=M.free.length:=(by have:=zB hc;omega);have O:planM M=some (M.free.take k,insAll ((M.deferred++M.lists)++M.free.drop k)):=(by rw[planM,ac,iN]);have Q:Rd [] w3 s1 M.free:=I.rds qaI oL;refine Rds.part (k:=1) Q k M.free.length rfl (by show (s1.len:Int)=_;omega) ad (zM _) fun s4 aR r4 _=>?_;rw[xV] at r4;refine qol b3 r4 (by rw[zF,yB];omega) fun s5 B5 w5 b5 f5 n5=>?_;have R:∀b∈B5,y.drew.heap.size<=b/\b∉B1:=fun b u=>by
  have hh:y.drew.heap.size<=b:=by
   rcases n5 b u with h|h;exact J b h
   have:=f3.size;omega
  exact⟨hh,fun z=>by have:=E b z;omega⟩
 have ao:BufU w5 s1 M.free B1:=I.frame f5 (fun b u z=>by have:=E b u;have:=J b z;omega);refine qoj b5 (by rw[zF,zF,yB];omega) fun l6 w6 b6 p6 o6 f6=>?_;have ap:BufU w6 s1 M.free B1:=ao.frame f6 (fun b u z=>(R b z).2 u);have aq:((M.deferred++M.lists)++M.free.drop k).Nodup:=by
  have h:=hW.nodup;have hp:(M.free++(M.deferred++(M.lists++M.fresh.map (·.1)))).Perm (((M.deferred++M.lists)++M.free)++M.fresh.map (·.1)):=by rw[<- zV M.deferred,<- zV M.free];exact perm_append_comm.append_right _
  have h2:=(hp.nodup_iff.1 h).sublist (sublist_append_left _ _);exact h2.sublist ((List.Sublist.refl _).append (drop_sublist _ _))
 have ar:l6=insAll ((M.deferred++M.lists)++M.free.drop k):=qdq p6 o6 aq;rw[ar] at b6;have au:Fr [] w w6:=(ab.trans' f5 fun b u=>.inr (by have:=J b u;omega)).trans' f6 fun b u=>.inr (by have:=(R b u).1;omega);have af:∀G:List Nat,(∀b∈G,b<w.heap.size)->Rd G w6 s1 M.free/\Rd G w6 s5 (insAll ((M.deferred++M.lists)++M.free.drop k)):=fun G hG=>
  ⟨ap.rds qaI fun b u z=>by have:=hG b z;have:=n1 b u;omega,b6.rds qaI fun b u z=>by have:=hG b z;have:=(R b u).1;omega⟩
 exact Rds.part3 (af (List.range w.heap.size) oL).1 k rfl ad fun s7 r7=>hk s7 s5 _ _ w6 O au fun G hG=>⟨r7.weak fun b u=>.inl (mem_range.2 (hG b u)),(af G hG).2⟩
end
theorem qoW{mb:Nat}{y:List (Int×Leaf)}{K:Int×Sl->Prop}(h:MapAt u32V w mb (y.map fun e=>(e.1,leafV e.2)))(A:∀q,look n y=some q->K (q.2.1,q.2.2.1))(C:look n y≠none): runQ [Ty1.agg [Cell.int .u8,Cell.slice]] (fun w'=>(Instr.lookup MLT (.map (some mb)) (.u n) false).run prog w') w K:=by
 have:=qc6 (P:=prog) qmh qwb qbz h n
 rw[qbl,qb7] at this;cases z:look n y with
 | none=>exact absurd z C
 | some q=>
  rw[z] at this;exact qaJ (ts:=[Ty1.agg [Cell.int .u8,Cell.slice]]) (q.2.1,q.2.2.1) this (A q z)
theorem qsm{dbk k:Nat}{C:World}{FD F1:List Nat}{pb:Nat}{sp sn:Sl}{next:Sup}{K:Int->WP}(h:DS dbk w FD C F1 D k)(hp:PagerAt C F1 pb (pW dbk) F M)(ab:∀e∈M.fresh,(0<=e.2.1/\e.2.1<256)/\e.2.2.length<=500/\IsB e.2.2)(aC:(M.fresh.map (·.1)).Nodup)(aD:∀x∈M.fresh.map (·.1),U32 x)(aE:M.fresh.length<=100000)(bg:k+M.fresh.length+pages.length+1<=1000000)(hv:Hv C)(hg:HG∉F1)(hn:Rd F1 C sn named)(aG:Rd F1 C sp pages)(aH:named.length<=100000)(aI:pages.length<=100000)(aJ:∀x∈pages,U32 x)(hs:next.2.length=27)(hq:0<=next.1)(U:∀w2 F2,DS dbk w FD w2 F2 (flushM D M.fresh pages named next).1 (k+M.fresh.length+pages.length+1)->Fr F1 C w2->(∀b∈F2,b∈F1\/C.heap.size<=b)->K (flushM D M.fresh pages named next).2 w2): cW 51 [.pointer (pW pb),sp.v,sn.v,.agg (supV next.1 next.2).toArray] [.one .i] C K:=by
 refine qhb ?_;unfold qdV;refine oB (oE [] C) fun r w2 e2 f2 ho=>qsn (hp.frame0 f2) aE fun s3 B3 y w3 b3 p3 o3 f3 n3=>?_;have aM:y=insAll (M.fresh.map (·.1)):=qdq p3 o3 aC;have aN:y.length=M.fresh.length:=(by have:=p3.length_eq;rw[zK] at this;exact this);have ac:∀x∈y,x∈M.fresh.map (·.1):=fun x J=>p3.mem_iff.1 J;have z:Fr [] C w3:=f2.trans f3;have hW:freshW M.fresh=y.map fun n=>(n,sealV n (leafOf M.fresh n).1 (leafOf M.fresh n).2):=(by rw[freshW,<- aM]);have aO:=ho.frame0 f3;have bn:=b3.len;have a9:=f2.size;have ar:∀b∈F1,b<C.heap.size:=h.at_.lt;have r3:Rd F1 w3 s3 y:=b3.rds qaI fun b hb hm=>by have:=n3 b hb;have:=ar b hm;omega
 have V:w3.heap[r]?=some (.cells (supV next.1 next.2).toArray 92 (0,0)):=aO.at (i:=0) rfl;have hr:r∉F1:=fun hm=>by have:=ar r hm;omega
 rw[flushM,hW] at U;refine qaj (fun x w'=>∃(i:Nat) (F':List Nat) (D':DiskM),x=i/\i<=y.length/\DS dbk w3 F1 w' F' D' (k+i)/\
   andThen (writesM (y.map fun n=>(n,sealV n (leafOf M.fresh n).1 (leafOf M.fresh n).2)) D) (fun D=>andThen (spreadM D named pages) fun D=>sealM D next) =
    andThen (writesM ((y.drop i).map fun n=>(n,sealV n (leafOf M.fresh n).1 (leafOf M.fresh n).2)) D') (fun D=>andThen (spreadM D named pages) fun D=>sealM D next)) (fun x _=>((y.length:Int)-x).toNat)
  ⟨0,F1,D,rfl,oJ,DS.refl (h.at_.frame0 z) h.lim,rfl⟩ ?_
 rintro x w4 ⟨i,F',D',rfl,hi,O,he⟩ Y hY;have af:PagerAt w4 F' pb (pW dbk) F M:=(hp.frame0 z).frameX O.fr O.at_.lt O.nw;have ag:=O.hv (hv.frame0 z) hg;have E:∀ {A:World} {F5:List Nat} {D5:DiskM} {k5:Nat},DS dbk w3 F1 A F5 D5 k5->DS dbk w FD A F5 D5 k5/\Fr F1 C A/\∀b∈F5,b∈F1\/C.heap.size<=b:=fun d5=>by have g:DS dbk C F1 _ _ _ _:=(DS.refl h.at_ h.lim).frame0 z |>.trans d5;exact⟨h.trans g,g.fr,g.nw⟩
 apply qaa<;>intro u;have ai:i<y.length:=(by have:=zC u;omega);refine Rd.at (O.rd r3) i rfl (zA ai) ?_;have aj:=ac _ (zW ai);have aP:=aD _ aj;have G:y.drop i=y[i]::y.drop (i+1):=zX ai;generalize y[i]=x at aj aP G;obtain⟨fb,defb,mb,sl,sm,G1,G2,fs,rfl,J⟩:=af;have I:=J.frame0 (Fr.refl [] w4).drew;have Q:=J.fresh_look x;have au:look x fs≠none:=fun hn=>by rw[hn] at Q;exact qa4.1 Q aj
 refine qae (qag (w:=w4.drew) (c:=.map) I.cell (some mb) (qbA J.suplen) ?_);refine qoW I.map.at (fun q ak=>?_) au;refine qae (qag (w:=w4.drew) (c:=.map) I.cell (some mb) (qbA J.suplen) ?_);refine qoW I.map.at (fun q' av=>?_) au;rw[ak] at av;cases av;rw[ak] at Q;have aR:leafOf M.fresh x=(q.2.1,q.2.2.2):=(by rw[leafOf,Q];rfl);have hm:=(qaY ak).2;have aa:=I.rows.bodies _ hm;have R:=ab (x,q.2.1,q.2.2.2) (by rw[J.fresh];exact mem_map.2 ⟨_,hm,rfl⟩);dsimp only at aa R;refine qms aa (ag.1.frame0 (Fr.refl [] w4).drew) oJ (fun h=>oJ) fun _ b5 T5 A c5 f5 n5=>?_;have aw:Fr [] w4 A:=(Fr.refl [] w4).drew.trans f5;have al:=J.frame0 aw;refine qae (qag al.cell (pW dbk) qrR ?_);rw[wi' x oJ];have ax:=qb9 (number:=x) (kind:=q.2.1) R.2.1;have aT:RdB [] A ⟨pW b5,512,512⟩ (sealV x q.2.1 q.2.2.2):=by
  have:=qgu (S:=[]) (o:=0) (n:=512) (cap:=512) c5 (by rw[ax];exact zM _) (zM _)
  rw[xD,zS (Nat.le_of_eq ax)] at this;exact this
 rw[G,xK,aR] at he;refine qfi (O.frame0 aw) oJ aT (qcJ R.1 R.2.2) fun w6 F6 d6 f6 n6=>?_;apply qaa<;>intro u;have u:(writeM D' x (sealV x q.2.1 q.2.2.2)).2≠0:=(oP u);rw[writesM,qhp,qbQ u] at he;rw[he] at U;have a6:=E d6;exact U w6 F6 (a6.1.lims oJ) a6.2.1 a6.2.2;have u:(writeM D' x (sealV x q.2.1 q.2.2.2)).2=0:=(oP u);rw[writesM,qhp,qcc u] at he;rw[wi' _ oJ];exact hY _ _ ⟨i+1,F6,_,oL,oJ,d6,he⟩ oJ
 ·have:i=y.length:=(by have:=zB u;omega);subst this;rw[drop_length,map_nil,writesM,andThen_ok] at he;rw[he] at U;obtain⟨fb,defb,mb,sl,sm,G1,G2,fs,hF,J⟩:=id af;refine qae (qag J.cell (pW dbk) qrR ?_);have aV:=O.rd (hn.frame0 z);have ay:=O.rd (aG.frame0 z);refine qkX O oJ ag.1 ag.2 aV ay aH aI aJ fun A F5 d5 f5 n5=>?_;apply qaa<;>intro u;have u:(spreadM D' named pages).2≠0:=(oP u);rw[qbQ u] at U;have a5:=E d5;exact U A F5 (a5.1.lims oJ) a5.2.1 a5.2.2
  ·have u:(spreadM D' named pages).2=0:=(oP u);rw[qcc u] at U;have aX:PagerAt A F5 pb (pW dbk) F M:=af.frameX f5 d5.at_.lt n5;obtain⟨fb,defb,mb,sl,sm,G1,G2,fs,hF,al⟩:=id aX;have aY:=al.frame0 (Fr.refl [] A).drew;refine qae (qag (w:=A.drew) (c:=.ptr) aY.cell (pW dbk) qrR ?_);have an:A.drew.heap[r]?=some (.cells (supV next.1 next.2).toArray 92 (0,0)):=(by show A.heap[r]?=_;rw[d5.fr.block r (qac V) hr];exact V);refine qer an hs<|qoe (d5.frame0 (Fr.refl [] A).drew) oJ ((d5.hv (hv.frame0 z) hg).1.frame0 (Fr.refl [] A).drew) hs hq fun w6 F6 d6 f6 n6=>?_;have a6:=E d6;exact U w6 F6 (a6.1.lims oJ) a6.2.1 a6.2.2
def Ats (D:DiskM):Prop:=∀x∈D.waits,0<=x.1/\x.1<D.safe.length
theorem qmI(h:(actM D).2=false)(u:D.down=false):(actM D).1.down=false:=by unfold actM at h⊢;split;rename_i y;rw[if_pos y] at h;cases h;split<;>exact u
theorem qke(I:Ats D)(h:(writeM D n l).2=0): (writeM D n l).1.down=false/\Ats (writeM D n l).1/\(0<=n/\n<D.size)/\∀m,view (writeM D n l).1 m=if m=n then l else view D m:=by
 unfold writeM at h⊢;split;rename_i A;rw[if_pos A] at h;cases h;rename_i A;rw[if_neg A] at h;split;rename_i E;rw[if_pos E] at h;cases h;rename_i E;rw[if_neg E] at h;split;rename_i u;rw[dif_pos u] at h;have z:(actM (addW D n ⟨l,u⟩)).2=false:=by
  cases J:(actM (addW D n ⟨l,u⟩)).2 with
  | false=>rfl
  | true=>simp only[J,if_true] at h;cases h
 have C:=qcw (addW D n ⟨l,u⟩);have G:0<=n/\n<(D.safe.length:Int):=oJ;refine⟨qmI z (show D.down=false by simpa using A),fun x y=>?_,G,fun m=>?_⟩;show 0<=x.1/\x.1<((actM (addW D n ⟨l,u⟩)).1.safe.length:Int);rw[C.1];have y:x∈(actM (addW D n ⟨l,u⟩)).1.waits:=y;rw[C.2] at y;rcases zD.1 y with y|y;exact I x y;simp at y;subst y;exact G;show view (actM (addW D n ⟨l,u⟩)).1 m=_;rw[view,C.1,C.2,addW];dsimp only;rw[qeQ];by_cases hm:m=n;rw[if_pos hm,if_pos hm.symm];rw[if_neg hm,if_neg (fun e=>hm e.symm),view];rename_i u;rw[dif_neg u] at h;cases h
theorem qlY(A:Ats D)(h:(syncM D).2=0):(syncM D).1.down=false/\(syncM D).1.waits=[]/\∀m,0<=m->view (syncM D).1 m=view D m:=by unfold syncM at h⊢;split;rename_i y;rw[if_pos y] at h;cases h;rename_i y;rw[if_neg y] at h;split;rename_i z;rw[if_pos z] at h;cases h;rename_i z;have u:(actM D).2=false:=(oP z);refine⟨qmI u (oP y),rfl,fun m C=>?_⟩;obtain⟨k,rfl⟩:∃k:Nat,m=k:=⟨m.toNat,oJ⟩;show ((D.waits.foldl laySafe D.safe).getD (k:Int).toNat .zero).1=_;rw[zJ,qkv k _ _ A,view,zJ];cases lastW (k:Int) D.waits<;>rfl
theorem qqE(h:D.waits=[]):Ats D:=fun x u=>by rw[h] at u;cases u
theorem qgE{r:DiskM×Int}{f:DiskM->DiskM×Int}(h:(andThen r f).2=0):r.2=0/\(f r.1).2=0/\andThen r f=f r.1:=by unfold andThen at h⊢;by_cases h0:r.2=0;rw[if_pos h0] at h⊢;exact⟨h0,h,rfl⟩;rw[if_neg h0] at h;exact absurd h h0
theorem qfb:∀ {l:List (Int×List Int)} {D:DiskM},Ats D->D.down=false->(writesM l D).2=0->(l.map (·.1)).Nodup-> (writesM l D).1.down=false/\Ats (writesM l D).1/\(∀x∈l,view (writesM l D).1 x.1=x.2)/\∀m,m∉l.map (·.1)->view (writesM l D).1 m=view D m
 | [],D,z,E,_,_=>⟨E,z,(fun x u=>by cases u),fun m _=>rfl⟩
 | y::l,D,z,E,h,A=>by obtain⟨J,K,O⟩:=qgE (show (andThen (writeM D y.1 y.2) (writesM l)).2=0 from h);obtain⟨Q,R,_,G⟩:=qke z J;rw[xK,nodup_cons] at A;obtain⟨U,V,v2,I⟩:=qfb (l:=l) R Q K A.2;rw[show writesM (y::l) D=writesM l (writeM D y.1 y.2).1 from O];refine⟨U,V,fun x u=>?_,fun m C=>?_⟩;rcases zG.1 u with rfl|u;rw[I _ A.1,G,if_pos rfl];exact v2 x u;rw[xK,zG,not_or] at C;rw[I m C.2,G,if_neg C.1]
theorem qpA(I:Ats D)(J:D.down=false)(y:ListOk n numbers pages)(h:(spreadM D numbers pages).2=0): (spreadM D numbers pages).1.down=false/\(spreadM D numbers pages).1.waits=[]/\Listed (spreadM D numbers pages).1 numbers pages/\∀m,0<=m->m∉pages->view (spreadM D numbers pages).1 m=view D m:=by have C:((pages.zip (bodiesL numbers pages pages.length)).map fun x=>(x.1,sealV x.1 2 x.2)).map (·.1)=pages:=(by rw[map_map];exact qmD (by rw[qfS]));have e:spreadM D numbers pages=andThen (writesM ((pages.zip (bodiesL numbers pages pages.length)).map fun x=>(x.1,sealV x.1 2 x.2)) D) syncM:=(by rw[spreadM,y.bodies];exact if_neg oL);rw[e] at h;obtain⟨K,O,Q⟩:=qgE h;obtain⟨d1,R,U,E⟩:=qfb I J K (by rw[C];exact y.nodup);rw[C] at E;obtain⟨V,w2,G⟩:=qlY R O;rw[e,Q];refine⟨V,w2,fun i p z=>?_,fun m hm A=>by rw[G m hm,E m A]⟩;have hi:=(zP.1 z).1;have u:(p,sealV p 2 (bodyV (pages.getD (i+1) 0) (chunk numbers i)))∈(pages.zip (bodiesL numbers pages pages.length)).map fun x=>(x.1,sealV x.1 2 x.2):=(by refine mem_map.2 ⟨(p,bodyV (pages.getD (i+1) 0) (chunk numbers i)),?_,rfl⟩;refine yE (i:=i) ?_;rw[List.getElem?_zip_eq_some];exact⟨z,by rw[qgR,if_pos hi]⟩);have ac:=y.pgs _ (yE z);rw[G p oJ];exact U _ u
theorem qsb{s:Sup}(E:Ats D)(G:SupOk s)(h:(sealM D s).2=0): (sealM D s).1.down=false/\(sealM D s).1.waits=[]/\view (sealM D s).1 (s.1%2)=sealV (s.1%2) 1 (superB s.1 s.2)/\∀m,0<=m->m≠s.1%2->view (sealM D s).1 m=view D m:=by obtain⟨I,J,K⟩:=qgE (show (andThen (writeM D (superP s).1 (superP s).2) syncM).2=0 from h);obtain⟨R,O,_,u⟩:=qke E I;obtain⟨A,C,y⟩:=qlY O J;rw[show sealM D s=syncM (writeM D (superP s).1 (superP s).2).1 from K];rw[G.superP] at u y A C⊢;refine⟨A,C,by rw[y _ oJ,u,if_pos rfl],fun m Q z=>by rw[y m Q,u,if_neg z]⟩
theorem qet(h:planM M=some (pages,named)): ∃k,k=needP (M.free.length+(M.deferred++M.lists).length)/\k<=M.free.length/\pages=M.free.take k/\named=insAll ((M.deferred++M.lists)++M.free.drop k):=by unfold planM at h;split at h;cases h;rename_i y;have u:=yN h;exact⟨_,rfl,oJ,(congrArg Prod.fst u).symm,(congrArg Prod.snd u).symm⟩
theorem PgM.Wf.planNodup(h:M.Wf)(k:Nat):(M.free.take k++((M.deferred++M.lists)++M.free.drop k)).Nodup:=by
 have u:(M.free++(M.deferred++(M.lists++M.fresh.map (·.1)))).Perm ((M.free.take k++((M.deferred++M.lists)++M.free.drop k))++M.fresh.map (·.1)):=by
  conv=>lhs;lhs;rw[<- xC k M.free]
  rw[<- zV M.deferred];have:(M.free.drop k++((M.deferred++M.lists)++M.fresh.map (·.1))).Perm (((M.deferred++M.lists)++M.free.drop k)++M.fresh.map (·.1)):=by rw[<- zV];exact perm_append_comm.append_right _
  rw[zV,zV (M.free.take k)];exact this.append_left _
 exact (u.nodup_iff.1 h.nodup).sublist (sublist_append_left _ _)
theorem qbT(z:M.Wf)(h:planM M=some (pages,named)):ListOk (M.sup.2.getD 0 0) named pages:=by obtain⟨k,C,A,rfl,rfl⟩:=qet h;have y:=z.planNodup k;rw[yL] at y;have E:∀x∈(M.deferred++M.lists)++M.free.drop k,2<=x/\x<M.sup.2.getD 0 0:=fun x u=>z.range x (by simp only[zD] at u⊢;rcases u with (u|u)|u;exact .inr (.inl u);exact .inr (.inr (.inl u));exact .inl (yT u));refine⟨qbO _,fun x u=>E x (qbJ.1 u),fun x u=>z.range x (zH _ (yU u)),y.1,fun x u G=>y.2.2 x u x (qbJ.1 G) rfl,?_⟩;have I:=(qfW y.2.1).length_eq;have J:=qg4 (n:=M.free.length+(M.deferred++M.lists).length);rw[<- C] at J;rw[I,zF,yB,yK,xN A];omega
theorem qlG(G:M.Wf)(h:planM M=some (pages,named)):∀x∈M.fresh.map (·.1),x∉pages/\x∉named:=by obtain⟨k,O,I,rfl,rfl⟩:=qet h;intro x z;have y:=G.nodup;rw[yL] at y;have A:=y.2.1;rw[yL] at A;have C:=A.2.1;rw[yL] at C;have E:x∉M.free:=fun u=>y.2.2 x u x (zI _ (zI _ z)) rfl;have J:x∉M.deferred:=fun u=>A.2.2 x u x (zI _ z) rfl;have K:x∉M.lists:=fun u=>C.2.2 x u x z rfl;refine⟨fun u=>E (yU u),fun u=>?_⟩;have u:=qbJ.1 u;simp only[zD] at u;rcases u with (u|u)|u;exact J u;exact K u;exact E (yT u)
theorem qgX(fresh:List (Int×Int×List Int)):(freshW fresh).map (·.1)=insAll (fresh.map (·.1)):=by rw[freshW,map_map];exact map_id _
theorem qdD{β:Type}:∀ {l:List (Int×β)} {e:Int×β},(l.map (·.1)).Nodup->e∈l->∃i,look e.1 l=some (i,e.2)
 | p::r,e,y,u=>by rw[xK,nodup_cons] at y;simp only[look];rcases zG.1 u with rfl|u;exact⟨0,by rw[if_pos rfl]⟩;have z:e.1≠p.1:=fun h=>y.1 (h▸zY u);obtain⟨i,hi⟩:=qdD y.2 u;exact⟨i+1,by rw[if_neg z,hi];rfl⟩
theorem qrw{fresh:List (Int×Int×List Int)}(u:(fresh.map (·.1)).Nodup){e:Int×Int×List Int}(h:e∈fresh):(e.1,sealV e.1 e.2.1 e.2.2)∈freshW fresh:=by refine mem_map.2 ⟨e.1,qbJ.2 (zY h),?_⟩;obtain⟨i,hi⟩:=qdD u h;rw[leafOf,hi]
structure Flushed (D D':DiskM) (M:PgM) (pages named:List Int) (next:Sup):Prop where
 down:D'.down=false
 waits:D'.waits=[]
 listed:Listed D' named pages
 super:view D' (next.1%2)=sealV (next.1%2) 1 (superB next.1 next.2)
 fresh:∀ e∈M.fresh,view D' e.1=sealV e.1 e.2.1 e.2.2
 rest:∀ m,0<=m->m∉M.fresh.map (·.1)->m∉pages->m≠next.1%2->view D' m=view D m
theorem PgM.Wf.keysNodup(h:M.Wf):(M.fresh.map (·.1)).Nodup:=h.nodup.sublist (((sublist_append_right _ _).trans (sublist_append_right _ _)).trans (sublist_append_right _ _))
theorem PgM.Wf.keys(h:M.Wf):∀x∈M.fresh.map (·.1),2<=x/\x<M.sup.2.getD 0 0:=fun x u=>h.range x (zI _ (zI _ (zI _ u)))
theorem qp4{next:Sup}(O:Ats D)(Q:D.down=false)(A:M.Wf)(u:planM M=some (pages,named))(R:SupOk next)(h:(flushM D M.fresh pages named next).2=0): Flushed D (flushM D M.fresh pages named next).1 M pages named next:=by
 obtain⟨U,V,h3⟩:=qgE (show (andThen (writesM (freshW M.fresh) D) fun D=>andThen (spreadM D named pages) fun D=>sealM D next).2=0 from h);obtain⟨h4,h5,h6⟩:=qgE V;have C:((freshW M.fresh).map (·.1)).Nodup:=(by rw[qgX];exact qbI (qbO _));obtain⟨d1,a1,v1,u1⟩:=qfb O Q U C;have y:=qbT A u;obtain⟨d2,w2,l2,I⟩:=qpA a1 d1 y h4;obtain⟨d3,w3,p3,E⟩:=qsb (qqE w2) R h5;have e:flushM D M.fresh pages named next=sealM (spreadM (writesM (freshW M.fresh) D).1 named pages).1 next:=h3.trans h6
 rw[e];have an:next.1%2=0\/next.1%2=1:=by omega
 refine⟨d3,w3,fun i p J=>?_,p3,fun x G=>?_,fun m K h7 h8 h9=>?_⟩
 have:=y.pgs p (yE J)
 rw[E p oJ oJ];exact l2 i p J;have hk:=A.keys x.1 (zY G);have hf:=qlG A u x.1 (zY G);rw[E _ oJ oJ,I _ oJ hf.1];exact v1 _ (qrw A.keysNodup G);rw[E m K h9,I m K h8];refine u1 m fun z=>h7 ?_;rw[qgX] at z;exact qbJ.1 z
theorem Quiet.flushed{next:Sup}(h:Quiet D)(z:M.Wf)(I:M.sup.2.getD 0 0=D.size)(h8:8<=D.size)(u:planM M=some (pages,named))(J:SupOk next): (flushM D M.fresh pages named next).2=0/\Quiet (flushM D M.fresh pages named next).1/\(flushM D M.fresh pages named next).1.size=D.size:=by
 have C:((freshW M.fresh).map (·.1)).Nodup:=(by rw[qgX];exact qbI (qbO _));obtain⟨D1,e1,K,s1,_⟩:=h.writes (l:=freshW M.fresh) (fun x O=>by obtain⟨n,A,rfl⟩:=mem_map.1 O;have A:=qbJ.1 A;have hk:=z.keys n A;refine⟨by dsimp only;omega,qb9 ?_⟩;obtain⟨e,E,rfl⟩:=mem_map.1 A;obtain⟨i,hi⟩:=qdD z.keysNodup E;rw[leafOf,hi];exact (z.body e E).2.1) C;have y:=qbT z u;rw[I,<- s1] at y;obtain⟨D2,Q,R,s2,_⟩:=K.spread y;obtain⟨G,U,V,s3,_⟩:=R.sealOk J oJ;have:flushM D M.fresh pages named next=(G,0):=by rw[flushM,e1,andThen_ok,Q,andThen_ok,U]
 rw[this];exact⟨rfl,V,by show G.size=D.size;omega⟩
def PgM.all (M:PgM):List Int:=M.free++(M.deferred++(M.lists++M.fresh.map (·.1)))
theorem qgP{s:Sup}{t:Int}{ov:Bool}(h:ListOk (s.2.getD 0 0) numbers pages)(A:s.2.getD 0 0<=4096)(z:∀x∈s.2,U32 x):(begunM s pages numbers t ov numbers).Wf where
 n4:=A
 u32:=z
 roots:=fun x u=>z x (yT u)
 namedS:=h.rises
 named:=h.nums
 freeS:=h.rises
 defS:=.nil
 nodup:=by show (numbers++([]++(pages++[]))).Nodup;rw[xG,xF,yL];exact⟨qbI h.rises,h.nodup,fun x u y C e=>h.apart y C (e▸u)⟩
 range:=fun x u=>by have u:x∈numbers++([]++(pages++[])):=u;rw[xG,xF,zD] at u;rcases u with u|u;exact h.nums x u;exact h.pgs x u
 body:=fun e E=>by cases E
theorem qvG:overM.Wf:=by
 have u:∀x∈supZero.2,U32 x:=fun x h=>by
  have:=eq_of_mem_replicate (show x∈List.replicate 27 (0:Int) from h)
  subst this;exact⟨oM,oM⟩
 exact qgP (s:=supZero) (pages:=[]) (numbers:=[]) ⟨.nil,(fun x h=>by cases h),(fun x h=>by cases h),.nil,(fun x h=>by cases h),oM⟩ oM u
theorem qpw{β:Type}{v:β}{l:List (Int×β)}(h:n∉l.map (·.1)):setL n v l=l++[(n,v)]:=by rw[setL,qa4.2 h]
theorem qns{β:Type}{v:β}{l:List (Int×β)}(h:n∈l.map (·.1)):(setL n v l).map (·.1)=l.map (·.1):=by
 unfold setL;cases y:look n l with
 | none=>exact absurd h (qa4.1 y)
 | some q=>
  dsimp only;rw[map_set];apply ext_getElem?;intro j;rw[List.getElem?_set];by_cases hj:q.1=j;subst hj;have z:=(qaY y).1;obtain⟨u,A⟩:=zP.1 z;simp[u,A];rw[if_neg hj]
theorem qmQ{β:Type}{l:List (Int×β)}(h:n∈l.map (·.1)):(l.map (·.1)).Perm (n::(delL n l).map (·.1)):=by
 unfold delL;cases z:look n l with
 | none=>exact absurd h (qa4.1 z)
 | some q=>
  dsimp only;have A:=(qaY z).1;obtain⟨u,C⟩:=zP.1 A;rw[qbk];have E:(l.map (·.1))[q.1]'(oP u)=n:=(by simp[C]);have y:q.1<(l.map (·.1)).length:=(oP u);have G:l.map (·.1)=(l.map (·.1)).take q.1++n::(l.map (·.1)).drop (q.1+1):=by rw[<- E,<- zX y,xC]
  rw[eraseIdx_eq_take_drop_succ];conv=>lhs;rw[G]
  exact perm_middle
theorem qdz:usedV M n=true↔(2<=n/\n<M.sup.2.getD 0 0)/\n∉M.all:=by unfold usedV PgM.all;simp only[yA,zT,Bool.or_eq_false_iff,decide_eq_false_iff_not,Option.isNone_iff_eq_none,qa4,zD,not_or];constructor;rintro⟨⟨⟨⟨⟨A,C⟩,h⟩,u⟩,y⟩,z⟩;exact⟨⟨oJ,oJ⟩,u,y,h,z⟩;rintro⟨⟨A,C⟩,h,u,y,z⟩;exact⟨⟨⟨⟨⟨oJ,oJ⟩,y⟩,h⟩,u⟩,z⟩
theorem qtc{r:List Int}{v:Int×List Int}(u:M.free=n::r)(z:M.Wf):(r++(M.deferred++(M.lists++(setL n v M.fresh).map (·.1)))).Perm M.all:=by
 have h:n∉M.fresh.map (·.1):=fun A=>by have y:=z.nodup;rw[u,xH,nodup_cons] at y;exact y.1 (zI _ (zI _ (zI _ A)))
 rw[qpw h,xJ,PgM.all,u];show (r++(M.deferred++(M.lists++(M.fresh.map (·.1)++[n])))).Perm (n::(r++(M.deferred++(M.lists++M.fresh.map (·.1)))));rw[<- zV M.lists,<- zV M.deferred,<- zV r];exact perm_append_singleton n _
theorem qgK{M':PgM}(h:M.Wf)(u:M'.sup=M.sup)(y:M'.named=M.named)(A:∀x∈M'.roots,U32 x)(z:M'.all.Perm M.all)(C:M'.free.Pairwise (· < ·))(E:M'.deferred.Pairwise (· < ·))(G:∀e∈M'.fresh,(0<=e.2.1/\e.2.1<256)/\e.2.2.length<=500/\IsB e.2.2):M'.Wf where
 n4:=by rw[u];exact h.n4
 u32:=by rw[u];exact h.u32
 roots:=A
 namedS:=by rw[y];exact h.namedS
 named:=by rw[y,u];exact h.named
 freeS:=C
 defS:=E
 nodup:=z.nodup_iff.2 h.nodup
 range:=fun x I=>by rw[u];exact h.range x (z.mem_iff.1 I)
 body:=G
theorem qq0{kind:Int}(u:M.Wf)(A:0<=kind/\kind<256)(C:IsB body):(makeV M kind body).2.Wf/\(makeV M kind body).2.all.Perm M.all:=by
 unfold makeV;split;exact⟨u,.refl _⟩;split;exact⟨u,.refl _⟩;rename_i G;split;exact⟨u,.refl _⟩;rename_i n r y;have z:=qtc (v:=(kind,body)) y u;refine⟨qgK u rfl rfl u.roots z ?_ u.defS fun e E=>?_,z⟩
 have:=u.freeS
 rw[y,yI] at this;exact this.2;rcases qg2 E with h|h;exact u.body e h;rw[h];exact⟨A,by show body.length<=500;omega,C⟩
theorem qtp{kind:Int}(u:M.Wf)(z:0<=kind/\kind<256)(A:IsB body):(putV M n kind body).2.Wf/\(putV M n kind body).2.all.Perm M.all:=by
 unfold putV;split;exact⟨u,.refl _⟩;split;exact⟨u,.refl _⟩;rename_i q C;split;exact⟨u,.refl _⟩;rename_i I;have E:n∈M.fresh.map (·.1):=mem_map.2 ⟨_,(qaY C).2,rfl⟩;have y:({ M with fresh:=setL n (kind,body) M.fresh }:PgM).all=M.all:=by show M.free++(M.deferred++(M.lists++(setL n (kind,body) M.fresh).map (·.1)))=_;rw[qns E];rfl
 refine⟨qgK u rfl rfl u.roots (by rw[y]) u.freeS u.defS fun e G=>?_,by rw[y]⟩;rcases qg2 G with h|h;exact u.body e h;rw[h];exact⟨z,by show body.length<=500;omega,A⟩
theorem qqJ(u:M.Wf):(dropV M n).2.Wf:=by
 unfold dropV;split;exact u;split;rename_i q E;have G:n∈M.fresh.map (·.1):=mem_map.2 ⟨_,(qaY E).2,rfl⟩;have I:=u.nodup;have A:n∉M.free:=fun h=>by rw[yL] at I;exact I.2.2 n h n (zI _ (zI _ G)) rfl
 have z:({ M with fresh:=delL n M.fresh,free:=ins n M.free }:PgM).all.Perm M.all:=by
  show (ins n M.free++(M.deferred++(M.lists++(delL n M.fresh).map (·.1)))).Perm (M.free++(M.deferred++(M.lists++M.fresh.map (·.1))));refine ((qcs A).append_right _).trans ?_;have J:=qmQ G;have K:(M.deferred++(M.lists++M.fresh.map (·.1))).Perm (n::(M.deferred++(M.lists++(delL n M.fresh).map (·.1)))):=by refine ((J.append_left M.lists).append_left M.deferred).trans ?_;rw[<- zV,<- zV];exact perm_middle
  exact (perm_middle.symm.trans (K.symm.append_left M.free))
 exact qgK u rfl rfl u.roots z (qc4 u.freeS) u.defS fun e O=>u.body e (qo1 O);rename_i E;split;rename_i y;have y:=qdz.1 y;have C:n∉M.deferred:=fun h=>y.2 (zI _ (zH _ h));have z:({ M with deferred:=ins n M.deferred }:PgM).all.Perm (n::M.all):=by show (M.free++(ins n M.deferred++(M.lists++M.fresh.map (·.1)))).Perm (n::(M.free++(M.deferred++(M.lists++M.fresh.map (·.1)))));exact (((qcs C).append_right _).append_left M.free).trans perm_middle
 refine { n4:=u.n4,u32:=u.u32,roots:=u.roots,namedS:=u.namedS,named:=u.named,freeS:=u.freeS,defS:=qc4 u.defS,nodup:=z.nodup_iff.2 (nodup_cons.2 ⟨y.2,u.nodup⟩),range:=fun x Q=>?_,body:=u.body };rcases zG.1 (z.mem_iff.1 Q) with rfl|h;exact y.1;exact u.range x h;exact u
theorem qq3{s:Sup}{t:Int}{ov:Bool}(u:M.Wf)(h:planM M=some (pages,named))(y:s.2.getD 0 0=M.sup.2.getD 0 0)(z:∀x∈s.2,U32 x):(begunM s pages named t ov named).Wf:=
 qgP (by rw[y];exact qbT u h) (by rw[y];exact u.n4) z
theorem qiv(u:M.Wf)(h:planM M=some (pages,named)):∀x∈(nextS M pages named).2,U32 x:=by
 have z:=qbT u h;have A:=u.n4;intro x y;simp only[nextS,zD,zG,xT,or_false] at y;rcases y with (rfl|rfl|rfl)|y;exact qoJ u.u32 0;cases pages with
 | nil=>exact⟨oM,oM⟩
 | cons a r=>
  have:=z.pgs a oL
  show 0<=a/\a<4294967296;omega
 exact qaR _;exact u.roots x y
theorem quA(u:M.Wf)(h:planM M=some (pages,named))(y:M.roots.length=24)(z:0<=M.sup.1/\M.sup.1<4611686018427387903):SupOk (nextS M pages named)/\(nextS M pages named).1=M.sup.1+1:=by have e:wrap .u64 (M.sup.1+1)=M.sup.1+1:=qpM _;refine⟨⟨?_,?_,qiv u h⟩,e⟩;show 0<=wrap .u64 (M.sup.1+1)/\wrap .u64 (M.sup.1+1)<_;rw[e];omega;show ([M.sup.2.getD 0 0,pages.headD 0,wrap .u32 (named.length:Int)]++M.roots).length=27;rw[zF,y];rfl
theorem qsA(h:M.Wf):(commitM D M).1.2.Wf:=by unfold commitM;split;exact h;split;exact h;split;exact h;rename_i x u;obtain⟨pages,named⟩:=x;split;exact qvG;exact qq3 h u rfl (qiv h u)
section
def eq3:List Int->List Int->Bool
 | a::b::c::r,h::u::y::z=>bif (bif a==h then bif b==u then bif c==y then true else false else false else false) then eq3 r z else false
 | _,_=>true
theorem qqK:∀(n:Nat) (l l':List Int),l.length=3*n->l'.length=3*n->eq3 l l'=decide (l=l')
 | 0,l,l',h,u=>by have y:l=[]:=eq_nil_of_length_eq_zero oJ;have z:l'=[]:=eq_nil_of_length_eq_zero oJ;subst y z;simp[eq3]
 | n+1,l,l',h,u=>by
  match l,l',h,u with
  | a::b::c::r,C::E::G::A,h,u=>
   have:=qqK n r A (by simp at h;omega) (by simp at u;omega)
   rw[eq3,this];by_cases y:a=C<;>by_cases z:b=E<;>by_cases h3:c=G<;>by_cases h4:r=A<;>simp[y,z,h3,h4]
  | [],_,h,_=>simp at h
  | [_],_,h,_=>simp at h;omega
  | [_,_],_,h,_=>simp at h;omega
  | _::_::_::_,[],_,h=>simp at h
  | _::_::_::_,[_],_,h=>simp at h;omega
  | _::_::_::_,[_,_],_,h=>simp at h;omega
abbrev RAT:TypeId:=90
theorem qwq(a0 a1 a2 a3 a4 a5 a6 a7 a8 a9 h u y z A C E G I J K O Q R b0 b1 b2 b3 b4 b5 b6 b7 b8 b9 U V aa ab ac ad ae af ag ah ai aj ak al:Int): eqV prog 3 RAT (.agg (([a0,a1,a2,a3,a4,a5,a6,a7,a8,a9,h,u,y,z,A,C,E,G,I,J,K,O,Q,R]:List Int).map (Value.int .u32)).toArray) (.agg (([b0,b1,b2,b3,b4,b5,b6,b7,b8,b9,U,V,aa,ab,ac,ad,ae,af,ag,ah,ai,aj,ak,al]:List Int).map (Value.int .u32)).toArray) = some (eq3 [a0,a1,a2,a3,a4,a5,a6,a7,a8,a9,h,u,y,z,A,C,E,G,I,J,K,O,Q,R] [b0,b1,b2,b3,b4,b5,b6,b7,b8,b9,U,V,aa,ab,ac,ad,ae,af,ag,ah,ai,aj,ak,al]):=by kernel_rfl
theorem qs9(h:l.length=24):∃V a1 a2 a3 a4 a5 a6 a7 a8 a9 u y z A C E G I J K O Q R U,l=[V,a1,a2,a3,a4,a5,a6,a7,a8,a9,u,y,z,A,C,E,G,I,J,K,O,Q,R,U]:=
 match l,h with
 | [V,a1,a2,a3,a4,a5,a6,a7,a8,a9,u,y,z,A,C,E,G,I,J,K,O,Q,R,U],_=>⟨_,_,_,_,_,_,_,_,_,_,_,_,_,_,_,_,_,_,_,_,_,_,_,_,rfl⟩
theorem qr5{x y:Operand}{K:Bool->Prop}(u:l.length=24)(h:l'.length=24)(k:K (decide (l=l'))): runQ [Ty1.one Cell.bool] (fun w'=>(do eqGuard .eql RAT x y (.agg (l.map (Value.int .u32)).toArray) (.agg (l'.map (Value.int .u32)).toArray);binOp .eql RAT (.agg (l.map (Value.int .u32)).toArray) (.agg (l'.map (Value.int .u32)).toArray):Sem Value).run prog w') w K:=by refine qoB 3 oM (eq3 l l') ?_ oK (by rw[qqK 8 l l' u h];exact k);obtain⟨a0,a1,a2,a3,a4,a5,a6,a7,a8,a9,z,A,C,E,G,I,J,O,Q,R,U,V,aa,ab,rfl⟩:=qs9 u;obtain⟨b0,b1,b2,b3,b4,b5,b6,b7,b8,b9,ac,ad,ae,af,ag,ah,ai,aj,ak,al,am,an,ao,ap,rfl⟩:=qs9 h;exact qwq ..
theorem qtd{mb:Nat}{f:List (Int×Value)}{K:Int->Prop}(h:MapS u32V w mb f)(k:K f.length): runQ [Ty1.one .i] (fun w'=>(Builtin.len_ #[MLT] 3 #[Value.map (some mb)]).run prog w') w K:=by
 obtain⟨u,c,y,z,_⟩:=h;have A:(u.size:Int)=f.length:=by
  have:=congrArg List.length z
  simp at this;omega
 refine qaJ (ts:=[Ty1.one .i]) (u.size:Int) ?_ (by rw[A];exact k)
 have:=run_len_map (P:=prog) (w:=w) MLT 3 mb u c oK y
 exact this
section
variable {db:Option Addr} {sup:Sup} {sl sn:Sl} {turn:Int} {over:Bool} {fb defb mb:Nat} {roots:List Int} {wk:List Value}
theorem qhg(u:sup.2.length=27)(y:roots.length=24):((pgCells db sup sl sn turn over fb defb mb roots).toList.drop 36).take 24=roots.map (Value.int .u32):=by have h:((Value.pointer db::supV sup.1 sup.2)++pgRest sl sn turn over fb defb mb).length=36:=(by rw[zF,qaZ u];rfl);show (((Value.pointer db::supV sup.1 sup.2)++pgRest sl sn turn over fb defb mb++roots.map (Value.int .u32)).drop 36).take 24=_;rw[<- h,drop_append_of_le_length (zM _),drop_length,xG,zS (by rw[zK,y];exact zM _)]
theorem qtj(h:sup.2.length=27):((pgCells db sup sl sn turn over fb defb mb roots).toList.drop 5).take 24=(sup.2.drop 3).map (Value.int .u32):=by rw[<- qbp];exact qiE h
theorem qrX{h:Sup}(y:sup.2.length=27)(u:h.2.length=27):splice (pgRaw db sup sl sn turn over wk) 1 (supV h.1 h.2)=pgRaw db h sl sn turn over wk:=by
 have:=qa3 (A:=[Value.pointer db]) (X:=supV sup.1 sup.2) (Y:=supV h.1 h.2) (Z:=([sl.v,sn.v,.i turn,.bool over]:List Value)++wk) (by rw[qaE y,qaE u])
 simpa[pgRaw] using this
end
theorem qro{q a c:Int}{roots:List Int}(C:roots.length=24)(w:World):(Instr.build 92 #[(0,.int .u64 q),(1,.u a),(3,.u c),(4,.agg (roots.map (Value.int .u32)).toArray)]).run prog w=.ok (.agg (supV q ([a,0,c]++roots)).toArray) w:=by
 obtain⟨z,E,h⟩:=yS.1 qe1;have y:z.cells=(supV 0 (zs 27)).toArray:=(by rw[<- h]);refine qcI (parts:=[(0,.int .u64 q),(1,.u a),(3,.u c),(4,.agg (roots.map (Value.int .u32)).toArray)]) (offs:=#[(0,1),(1,1),(2,1),(3,1),(4,24)]) E oK (fun w=>oK) ?_ w;have G:(Value.agg (roots.map (Value.int .u32)).toArray).cells.size=24:=(by show (roots.map (Value.int .u32)).toArray.size=24;simp[C]);rw[y,qaB (o:=0) (s:=1) rfl rfl (zO rfl),qaB (o:=1) (s:=1) rfl rfl (zO rfl),qaB (o:=3) (s:=1) rfl rfl (zO rfl),qaB (o:=4) (s:=24) rfl G (zO rfl)];refine congrArg some ?_
 have:=qa3 (A:=[.int .u64 q,.u a,.u 0,.u c]) (X:=(zs 24).map (Value.int .u32)) (Z:=[]) (Y:=roots.map (Value.int .u32)) (by simp[C,qaG])
 refine Eq.trans ?_ (this.trans ?_);rfl;simp[supV]
theorem qrm(w:World):(Instr.build PGT #[(5,.bool true)]).run prog w=.ok (.agg (pgRaw none supZero ⟨none,0,0⟩ ⟨none,0,0⟩ 0 true (workV none none none (zs 24)))) w:=by refine qcI (parts:=[(5,.bool true)]) (offs:=#[(0,1),(1,28),(29,1),(30,1),(31,1),(32,1),(33,27)]) pgZ oK (fun w=>oK) ?_ w;rw[qaB (o:=32) (s:=1) rfl rfl (zO rfl)];rfl
def dbOf (dbk:Nat) (M:PgM):Option Addr:=if M.over then none else pW dbk
structure Both (w:World) (dbk pb:Nat) (FD F:List Nat) (D:DiskM) (M:PgM) (k:Nat):Prop where
 disk:DiskAt w dbk FD D
 lim:Lim D k
 pager:PagerAt w FD pb (dbOf dbk M) F M
def Turn (S:List Nat) (w w':World) (S':List Nat):Prop:=Fr S w w'/\∀b∈S',b∈S\/w.heap.size<=b
theorem qvF:((l.map (Value.int .u32)).all Value.oneCell')=true:=by rw[all_eq_true];intro v h;obtain⟨x,_,rfl⟩:=mem_map.1 h;rfl
theorem quS{x y:Option Addr}{m:Option Nat}{roots:List Int}:((workV x y m roots).all Value.oneCell')=true:=by rw[workV,all_append,qvF];rfl
theorem qvM{sup:Sup}{sl sn:Sl}{turn:Int}{over:Bool}{wk:List Value}(h:(wk.all Value.oneCell')=true):((pgRaw db sup sl sn turn over wk).toList.all Value.oneCell')=true:=by show ((((Value.pointer db::supV sup.1 sup.2)++([sl.v,sn.v,.i turn,.bool over]:List Value))++wk).all Value.oneCell')=true;rw[all_append,all_append,h,all_cons,qho];rfl
theorem PagerAt.weakX{X X':List Nat}{pb:Nat}(h:PagerAt w X pb db F M)(y:∀b∈X',b∈X):PagerAt w X' pb db F M:=
 h.frameX (.refl X w) (fun b u=>h.xlt b (y b u)) (fun b u=>.inl (y b u))
theorem qpQ{dbk pb:Nat}{X FD:List Nat}{k:Nat}{K:Int->WP}(hdisk:DiskAt w dbk FD D)(hlim:Lim D k)(hpag:PagerAt w X pb (dbOf dbk M) F M)(hsub:∀b∈FD,b∈X)(hW:M.Wf)(hk6:k+5000<=1000000)(ht:0<=M.turn/\M.turn<=1000000000)(hv:Hv w)(hg:HG∉FD)(kk:∀FD' F' w',DiskAt w' dbk FD' (commitM D M).1.1->Lim (commitM D M).1.1 (k+5000)->PagerAt w' (FD'++X) pb (dbOf dbk (commitM D M).1.2) F' (commitM D M).1.2->Turn (FD++F) w w' (FD'++F')->K (commitM D M).2 w'): cW 20 [.pointer (pW pb)] [.one .i] w K:=by
 have hall:=PgM.Wf.all M hW;have same:∀ {e:Int} {w':World},commitM D M=((D,M),e)->Fr [] w w'->K e w':=by
  intro e w' he hf
  have:=kk FD F w' (by rw[he];exact hdisk.frame0 hf) (by rw[he];exact hlim.mono oJ) (by rw[he];exact (hpag.frame0 hf).weakX fun b hb=>(zD.1 hb).elim (hsub b) id) ⟨hf.mono (fun b hb=>by cases hb),fun b hb=>.inl hb⟩
  rw[he] at this;exact this
 have hpag0:=hpag;obtain⟨fb,defb,mb,sl,sn,F1,F2,fs,rfl,hx⟩:=hpag;refine qgm (p:=pW pb) ?_;unfold qdj;refine qae (qag (c:=.bool) hx.cell M.over (qcH hx.suplen) ?_);refine qaa (fun hc=>same (by rw[commitM,if_pos hc]) (.refl _ _)) (fun hc=>?_);have ho:¬M.over=true:=(by rw[hc];decide);have hof:M.over=false:=hc;have hdb:dbOf dbk M=pW dbk:=if_neg ho;rw[hdb] at hx hpag0;have hxd:=hx.frame0 (Fr.refl [] w).drew;have hfl:fs.length=M.fresh.length:=(by rw[hx.fresh];simp);have hsr:(M.sup.2.drop 3).length=24:=(by rw[yB,hx.suplen]);refine qaf (fun b w'=>b=decide (M.fresh=[]/\M.deferred=[]/\M.roots=M.sup.2.drop 3)/\w'=w.drew) ?_ ?_;refine qae (qag (w:=w.drew) (c:=.map) hxd.cell (some mb) (qbA hx.suplen) ?_);refine qtd hxd.map ?_;rw[zK,hfl];apply qaa<;>intro hc1;have h1:M.fresh=[]:=eq_nil_of_length_eq_zero (by have:(M.fresh.length:Int)=0:=(oP hc1);omega);refine qae (qag (w:=w.drew) (c:=.ptr) hxd.cell (pW defb) (qlE hx.suplen) ?_);refine qqu hxd.deferred ?_;apply qaa<;>intro hc2;have h2:M.deferred=[]:=eq_nil_of_length_eq_zero (by have:(M.deferred.length:Int)=0:=(oP hc2);omega);refine qae (qaX (b:=pb) (off:=36) hxd.cell (M.roots.map (Value.int .u32)) (by rw[zK,hx.rootlen]) (qhg hx.suplen hx.rootlen) ?_);refine qae (qaX (b:=pb) (off:=5) hxd.cell ((M.sup.2.drop 3).map (Value.int .u32)) (by rw[zK,hsr]) (qtj hx.suplen) ?_);refine qr5 hx.rootlen hsr ⟨?_,rfl⟩;simp[h1,h2];have h2:M.deferred≠[]:=fun e=>by rw[e] at hc2;simp at hc2
 exact⟨by simp[h2],rfl⟩;have h1:M.fresh≠[]:=fun e=>by rw[e] at hc1;simp at hc1
 exact⟨by simp[h1],rfl⟩;rintro b w1 ⟨rfl,rfl⟩;have f01:Fr [] w w.drew:=(Fr.refl [] w).drew;refine qaa (fun hc=>same (by rw[commitM,if_neg ho,if_pos (zC hc)]) f01) (fun hc=>?_);have hne:=zB hc;refine qtV (hpag0.frame0 f01) hW (fun hpl w2 f2=>?_) (fun sp sm pages named w2 hpl f2 hrd=>?_);exact cond_true rfl<|same (by rw[commitM,if_neg ho,if_neg hne,hpl]) (f01.trans f2);refine cond_false rfl ?_;have hcm:commitM D M=if (flushM D M.fresh pages named (nextS M pages named)).2≠0 then (((flushM D M.fresh pages named (nextS M pages named)).1,overM),(flushM D M.fresh pages named (nextS M pages named)).2)
  else (((flushM D M.fresh pages named (nextS M pages named)).1,begunM (nextS M pages named) pages named (M.turn+1) false named),0):=by rw[commitM,if_neg ho,if_neg hne,hpl]
 have hplan:=hpl;unfold planM at hplan;split at hplan;cases hplan;rename_i hroom;have hpn:=yN hplan;have hpg:pages=M.free.take (needP (M.free.length+(M.deferred++M.lists).length)):=(congrArg Prod.fst hpn).symm;have hnm:named=insAll ((M.deferred++M.lists)++M.free.drop (needP (M.free.length+(M.deferred++M.lists).length))):=(congrArg Prod.snd hpn).symm;have hplf:pages.length<=M.free.length:=(by rw[hpg,yK];omega);have hpl4:pages.length<=4096:=oJ;have hnl4:named.length<=4096:=by
  have:=qll ((M.deferred++M.lists)++M.free.drop (needP (M.free.length+(M.deferred++M.lists).length)))
  rw[<- hnm] at this;simp only[zF,yB] at this;omega
 have hpm:∀x∈pages,2<=x/\x<M.sup.2.getD 0 0:=fun x hx=>by rw[hpg] at hx;exact hW.range x (zH _ (yU hx))
 have hblk4:=hW.n4;have hpu:∀x∈pages,U32 x:=fun x hx=>by have:=hpm x hx;constructor<;>omega
 have hns:named.Pairwise (· < ·):=(by rw[hnm];exact qbO _);have f02:=f01.trans f2;have hx2:=hx.frame0 f02;have hx2d:=hx2.frame0 (Fr.refl [] w2).drew;refine qae (qag (w:=w2.drew) (c:=.int .u64) hx2d.cell M.sup.1 qph ?_);refine qae (qag (w:=w2.drew) (c:=.u) hx2d.cell (M.sup.2.getD 0 0) (qlF hx.suplen 0) ?_);refine qae (qaX (b:=pb) (off:=36) hx2d.cell (M.roots.map (Value.int .u32)) (by rw[zK,hx.rootlen]) (qhg hx.suplen hx.rootlen) ?_);have hmlen:sm.len=named.length:=(hrd [] oL).2.1;refine qaJ (ts:=[Ty1.raw]) (supV (wrap .u64 (M.sup.1+1)) ([M.sup.2.getD 0 0,0,wrap .u32 (named.length:Int)]++M.roots)) (by rw[<- hmlen];exact qro hx.rootlen _) ?_;have hplen:sp.len=pages.length:=(hrd [] oL).1.1;refine oI (oE [] w2.drew) qe1 fun r w3 e3 ho3=>?_;have hx3:=hx2d.frame0 ho3.fr;refine qam (qba hx3.cell _ 36 0 (by show _=_;rw[zK,hx.rootlen];exact qhg hx.suplen hx.rootlen)) (by show _=_;simp only[Addr.add_mk];rw[qah hx3.cell];exact qlF hx.suplen 0) (by show _=_;rw[qah hx3.cell];exact qph) ?_;have l27:([M.sup.2.getD 0 0,0,wrap .u32 (named.length:Int)]++M.roots).length=27:=(by rw[zF,hx.rootlen];rfl);have n27:(nextS M pages named).2.length=27:=(by show ([M.sup.2.getD 0 0,pages.headD 0,wrap .u32 (named.length:Int)]++M.roots).length=27;rw[zF,hx.rootlen];rfl);have hG:∀b∈FD++pb::mb::(F1++F2),b<w.heap.size:=fun b hb=>by rcases zD.1 hb with h|h;exact hdisk.lt b h;exact hx.lt b h
 have hrdG:=hrd (FD++pb::mb::(F1++F2)) hG;refine qgt ho3 0 rfl rfl l27 fun w4 ho4=>qaf (fun _ w'=>Own [] w2.drew w' [(r,.cells (supV (nextS M pages named).1 (nextS M pages named).2).toArray 92 (0,0))]) ?_ ?_;apply qaa<;>intro hc;have hp0:0<pages.length:=(by have:=zC hc;dsimp only at this;omega);have f24:Fr [] w2 w4:=(Fr.refl [] w2).drew.trans ho4.fr;refine Rd.at ((hrd [] oL).1.frame0 f24) 0 rfl (zA hp0)<|oG ho4 0 rfl (supV (nextS M pages named).1 (nextS M pages named).2).toArray ?_ rfl (by rw[qfK l27];exact zO rfl) fun w5 ho5 f5=>ho5;have hh:pages.headD 0=pages[0]:=by
  cases pages with
  | nil=>simp at hp0
  | cons a r=>rfl
 show splice (supV _ ([M.sup.2.getD 0 0]++0::(wrap .u32 (named.length:Int)::M.roots))).toArray 2 [.u pages[0]]=_
 have:=qlU (q:=wrap .u64 (M.sup.1+1)) (x:=0) (y:=pages[0]) (A:=[M.sup.2.getD 0 0]) (Z:=wrap .u32 (named.length:Int)::M.roots)
 refine this.trans ?_;rw[nextS,hh];rfl;have hp0:pages=[]:=eq_nil_of_length_eq_zero (by have:=zB hc;dsimp only at this;omega);have e:supV (nextS M pages named).1 (nextS M pages named).2=supV (wrap .u64 (M.sup.1+1)) ([M.sup.2.getD 0 0,0,wrap .u32 (named.length:Int)]++M.roots):=by rw[nextS,hp0];rfl
 rw[e];exact ho4;rintro _ w5 ho5;refine qer (ho5.at (i:=0) rfl) n27 ?_;have f25:Fr [] w2 w5:=(Fr.refl [] w2).drew.trans ho5.fr;have f05:=f02.trans f25;have hd5:=hdisk.frame0 f05;have hp5:=hpag0.frame0 f05;have hq0:0<=(nextS M pages named).1:=by show 0<=wrap .u64 (M.sup.1+1);unfold wrap;have:(IntKind.u64.signed)=false:=rfl;simp only[this,Bool.false_and,Bool.false_eq_true,if_false];exact Int.emod_nonneg _ oM
 have hkeyU:∀x∈M.fresh.map (·.1),U32 x:=fun x hx=>by
  have:=hW.range x (zI _ (zI _ (zI _ hx)))
  constructor<;>omega
 have hkeyN:(M.fresh.map (·.1)).Nodup:=hW.nodup.sublist (((sublist_append_right _ _).trans (sublist_append_right _ _)).trans (sublist_append_right _ _));refine qsm (next:=nextS M pages named) (D:=D) (DS.refl hd5 hlim) (hp5.weakX hsub) hW.body hkeyN hkeyU oJ oJ (hv.frame0 f05) hg ((hrdG.2.frame0 f25).weak fun b hb=>.inl (zH _ hb)) ((hrdG.1.frame0 f25).weak fun b hb=>.inl (zH _ hb)) oJ oJ hpu n27 hq0 fun w6 FD6 d6 f6 n6=>?_;have hp6:=hp5.frameX (X':=FD6++X) (f6.mono fun b hb _=>hsub b hb) (fun b hb=>(zD.1 hb).elim (d6.at_.lt b) fun hb=>yC (hp5.xlt b hb) f6.size) fun b hb=>(zD.1 hb).elim (fun hb=>(n6 b hb).imp (hsub b) id) .inl;obtain⟨fb6,defb6,mb6,sl6,sn6,G1,G2,fs6,hF6,hx6⟩:=id hp6;have hpbn:pb∉FD6++X:=fun hm=>hx6.xsep pb hm oL;have hFD:∀b∈FD6,b∈FD++pb::mb::(F1++F2)\/w.heap.size<=b:=fun b hb=>by rcases n6 b hb with h|h;exact .inl (zH _ h);exact .inr (zL f05.size h)
 have hlt6:w.heap.size<=w6.heap.size:=zL f05.size f6.size;have f06:Fr (FD++pb::mb::(F1++F2)) w w6:=(f05.mono fun b hb=>by cases hb).trans (f6.mono fun b hb _=>zH _ hb);have hend:∀ {F':List Nat} {w8 w9:World},Fr [pb] w6 w8->Fr [pb] w8 w9->(∀b∈F',b=pb\/w8.heap.size<=b)->Turn (FD++pb::mb::(F1++F2)) w w9 (FD6++F')/\DiskAt w9 dbk FD6 (flushM D M.fresh pages named (nextS M pages named)).1:=by intro F' w8 w9 g8 g9 hF';have g69:=g8.trans g9;refine⟨⟨f06.trans (g69.mono fun b hb _=>by simp at hb;subst hb;simp),fun b hb=>?_⟩,d6.at_.frame g69 fun b hb=>by simp;rintro rfl;exact hpbn (zH _ hb)⟩;rcases zD.1 hb with hb|hb;exact hFD b hb;rcases hF' b hb with h|h;exact .inl (by rw[h];simp);exact .inr (zL (zL hlt6 g8.size) h)
 have hpX:∀ {w8:World},Fr [pb] w6 w8->∀b∈FD6++X,b<w8.heap.size/\b≠pb:=fun g8 b hb=>⟨yC (hp6.xlt b hb) g8.size,fun e=>hpbn (e▸hb)⟩;have hcell6:=hx6.cell;rw[<- qbp] at hcell6;have hwk:(workV (pW fb6) (pW defb6) (some mb6) M.roots).length=27:=qau hx.rootlen;have hlim6:Lim (flushM D M.fresh pages named (nextS M pages named)).1 (k+5000):=d6.lim.mono oJ;apply qaa<;>intro hc;have hc:(flushM D M.fresh pages named (nextS M pages named)).2≠0:=(oP hc);rw[if_pos hc] at hcm;rw[hcm] at kk;refine qaJ (ts:=[Ty1.raw]) (pgRaw none supZero ⟨none,0,0⟩ ⟨none,0,0⟩ 0 true (workV none none none (zs 24))).toList (qrm w6)<|qae ?_;have hsz60:(pgRaw none supZero ⟨none,0,0⟩ ⟨none,0,0⟩ 0 true (workV none none none (zs 24))).toList.length=60:=(by rw[Array.length_toList,qbq rfl];rfl);refine qaP hsz60<|qdG (b:=pb) (off:=0) hcell6 (pgRaw none supZero ⟨none,0,0⟩ ⟨none,0,0⟩ 0 true (workV none none none (zs 24))) (by rw[qcg (by rw[hsz60,qbq hx.suplen,hwk])]) (qvM (quS)) (by rw[hsz60,qbq hx.suplen,hwk];exact zO rfl) fun w7 c7 f7=>qfj (X:=FD6++X) (lists:=[]) (named:=[]) c7 rfl (qau (qaG 24)) oM (hpX f7) (.nil _ _ _ _) (.nil _ _ _ _) oM fun F' w8 hp8 f8 n8=>?_;have he:=hend f7 f8 n8;exact kk FD6 F' w8 he.2 hlim6 hp8 he.1;have hc:¬(flushM D M.fresh pages named (nextS M pages named)).2≠0:=(oP hc);rw[if_neg hc] at hcm;rw[hcm] at kk;have hsup6:w6.heap[r]?=some (.cells (supV (nextS M pages named).1 (nextS M pages named).2).toArray 92 (0,0)):=(by rw[f6.block r (qac (ho5.at (i:=0) rfl)) (fun hm=>by have:=hd5.lt r hm;have:=hdisk.lt r hm;have h1:w.heap.size<=w2.drew.heap.size:=f02.size;omega)];exact ho5.at (i:=0) rfl);refine qer hsup6 n27<|qae<|qaP (qaE n27)<|qdG (b:=pb) (off:=1) hcell6 (pgRaw (pW dbk) (nextS M pages named) sl6 sn6 M.turn M.over (workV (pW fb6) (pW defb6) (some mb6) M.roots)) (qrX hx.suplen n27) (qho _ _) (by rw[qaE n27,qbq hx.suplen,hwk];exact zO rfl) fun w7 c7 f7=>qae<|qdG (b:=pb) (off:=29) c7 (pgRaw (pW dbk) (nextS M pages named) sp sn6 M.turn M.over (workV (pW fb6) (pW defb6) (some mb6) M.roots)) (qnl n27) rfl (by rw[qbq n27,hwk];exact zO rfl) fun w8 c8 f8=>qae<|qdG (b:=pb) (off:=30) c8 (pgRaw (pW dbk) (nextS M pages named) sp sm M.turn M.over (workV (pW fb6) (pW defb6) (some mb6) M.roots)) (qnm n27) rfl (by rw[qbq n27,hwk];exact zO rfl) fun w9 c9 f9=>?_;have f69:=(f7.trans f8).trans f9;have hGX:∀b∈X++[pb],b<w.heap.size:=fun b hb=>by rcases zD.1 hb with h|h;exact hx.xlt b h;rw[zE.1 h];exact qac hx.cell
 have hrdX:=hrd (X++[pb]) hGX;have hst:∀ {s:Sl} {l:List Int},Rd (X++[pb]) w2 s l->Rd ((FD6++X)++[pb]) w9 s l:=fun hr=>by
  have h5:=hr.frame0 f25;have h6:Rd ((FD6++X)++[pb]) w6 _ _:=h5.frame (f6.mono fun b hb _=>zH _ (hsub b hb)) fun b hb=>by rcases zD.1 hb with hb|hb;rcases zD.1 hb with hb|hb;rcases n6 b hb with h|h;exact .inl (zH _ (hsub b h));exact .inr h;exact .inl (zH _ hb);exact .inl (zI _ hb)
  exact h6.frame (f69.mono fun b hb _=>zI _ hb) fun b hb=>.inl hb
 refine qfj (X:=FD6++X) (lists:=pages) (named:=named) c9 n27 hwk ht (hpX f69) (hst hrdX.1) (hst hrdX.2) oJ fun F' w10 hp10 f10 n10=>?_;rw[qin hns,hof] at hp10;have he:=hend f69 f10 n10;exact kk FD6 F' w10 he.2 hlim6 hp10 he.1
end
theorem qjD(h:RdB S w s l):(Extern.Bytes.bytesOf (.slice s.a s.len s.cap)).run prog w=.ok ⟨(Lib.bytesOf l).toArray⟩ w:=by
 have hlen:=h.1;cases ha:s.a with
 | none=>
  have hl0:l=[]:=by rcases h.2.2 with h3|⟨b,o,cs,T,fr,ha',_⟩;exact h3;rw[ha] at ha';cases ha'
  subst hl0;rfl
 | some a=>
  have hc:=h.cells qas ha
  have:=Lib.run_loadBytesX (P:=prog) w l a .empty (fun j x hj=>hc j (.int .u8 x) (by rw[qaF,zQ,hj];rfl))
  rw[hlen];show (Extern.Bytes.loadBytes a l.length .empty).run prog w=_;rw[this];have e:(#[]:Array UInt8)++(Lib.bytesOf l).toArray=(Lib.bytesOf l).toArray:=oL;exact congrArg (fun d=>Result.ok (ByteArray.mk d) w) e
theorem qfn:∀ {a b:List Int},IsB a->IsB b->Lib.compareBytes (Lib.bytesOf a) (Lib.bytesOf b)=cmpL a b
 | [],[],_,_=>rfl
 | [],y::b,_,_=>rfl
 | x::a,[],_,_=>rfl
 | x::a,y::b,G,I=>by
  have A:=G x oL;have C:=I y oL;have ih:=qfn (a:=a) (b:=b) (fun z E=>G z (zN _ E)) (fun z E=>I z (zN _ E));have e:∀ {u v:Int},(0<=u/\u<256)->(0<=v/\v<256)->(u.toNat.toUInt8<v.toNat.toUInt8↔u<v):=fun {u v} J K=>by rw[UInt8.lt_iff_toNat_lt];simp;omega
  show (if x.toNat.toUInt8<y.toNat.toUInt8 then (-1:Int) else if y.toNat.toUInt8<x.toNat.toUInt8 then 1 else Lib.compareBytes (Lib.bytesOf a) (Lib.bytesOf b))=cmpL (x::a) (y::b);rw[cmpL,ih];by_cases h1:x<y;rw[if_pos ((e A C).2 h1),if_pos h1];rw[if_neg (fun h=>h1 ((e A C).1 h)),if_neg h1];by_cases h2:y<x;rw[if_pos ((e C A).2 h2),if_pos h2];rw[if_neg (fun h=>h2 ((e C A).1 h)),if_neg h2]
theorem qpV{S':List Nat}{u:Sl}(h:RdB S w s l)(z:RdB S' w u l')(A:IsB l)(y:IsB l'): (Extern.BytealgCompare.compare #[s.v,u.v]).run prog w=.ok (.i (cmpL l l')) w:=by show Sem.run prog (do pure (goInt (Extern.BytealgCompare.cmp (<- Extern.Bytes.bytesOf s.v) (<- Extern.Bytes.bytesOf u.v)))) w=_;have e:=qfn A y;simp only[Sem.run_bind,qjD h,Result.andThen_ok,qjD z,Lib.cmp_eq];rw[e];rfl
theorem qh2{S':List Nat}{y:Sl}{K:Int->WP}(h:RdB S w s l)(z:RdB S' w y l')(A:IsB l)(u:IsB l')(C:K (cmpL l l') w): cW 115 [s.v,y.v] [.one .i] w K:=by refine qrF ?_;unfold qoS;refine qkj ?_;unfold qf5;exact qig (e:=Extern.BytealgCompare.compare) Tryz.func201 oK oK oK oK (cmpL l l') w (qpV h z A u) C
def encSl (s:Sl):List Value:=[s.v]
theorem qcA(s:Sl):(encSl s).length=1:=rfl
theorem qsM(s:Sl):∀u∈encSl s,u.oneCell'=true:=fun u h=>by rw[zE.1 h];rfl
abbrev Kps:=List (Sl×Key)
abbrev slsP (ps:Kps):List Sl:=ps.map (·.1)
abbrev keyP (ps:Kps):List Key:=ps.map (·.2)
def RdK (S:List Nat) (w:World) (s:Sl) (ps:Kps):Prop:=Rds encSl 1 S w s (slsP ps)/\∀p∈ps,RdB S w p.1 p.2
theorem RdK.frame{S S':List Nat}{w w':World}{s:Sl}{ps:Kps}(h:RdK S w s ps)(f:Fr S w w')(u:∀b∈S',b∈S\/w.heap.size<=b):RdK S' w' s ps:=⟨h.1.frame f u,fun p y=>(h.2 p y).frame f u⟩
theorem RdK.frame0{S:List Nat}{w w':World}{s:Sl}{ps:Kps}(h:RdK S w s ps)(f:Fr [] w w'):RdK S w' s ps:=⟨h.1.frame0 f,fun p u=>(h.2 p u).frame0 f⟩
theorem RdK.len{S:List Nat}{w:World}{s:Sl}{ps:Kps}(h:RdK S w s ps):s.len=ps.length:=by rw[h.1.1,zK]
theorem RdK.nil(S:List Nat)(w:World):RdK S w ⟨none,0,0⟩ []:=⟨.nil _ _ _ _,fun p h=>nomatch h⟩
theorem RdK.get{S:List Nat}{w:World}{s:Sl}{ps:Kps}(h:RdK S w s ps)(n:Nat){i:Int}{K:Sl->Prop}(hi:i=n)(u:n<ps.length)(z:K ps[n].1):idx s i 1 fun a=>ld .slice a w K:=
 Rds.get h.1 n hi (x:=ps[n].1) (by rw[zQ,zA u];rfl) (y:=ps[n].1) rfl z
def setRootM (M:PgM) (t h r1 u:Int):Int×PgM:=
 if M.over then (7,M) else if t<0\/t>7 then (4,M) else (0,{ M with roots:=M.roots.take (3*t.toNat)++[h,r1,u]++M.roots.drop (3*t.toNat+3) })
def pagerReadM (D:DiskM) (M:PgM) (n:Int):Int×List Int×Int:=
 if M.over then (0,[],7) else match look n M.fresh with
 | some q=>(q.2.1,q.2.2,0)
 | none=>if usedV M n=false then (0,[],10) else if (readV D n).2≠0 then (0,[],(readV D n).2) else openV n (readV D n).1
theorem qmo(u:D.Ok)(y:∀e∈M.fresh,IsB e.2.2)(n:Int):IsB (pagerReadM D M n).2.1:=by have h:IsB ([]:List Int):=fun x z=>nomatch z;unfold pagerReadM;split;exact h;split;rename_i q A;exact y _ (qaY A).2;split;exact h;split;exact h;exact (qnb (qbE u n).1 n).1
def PgM.Named (M:PgM):Prop:=(M.free++M.fresh.map (·.1)).Perm M.named
theorem qfR(s:Sup)(pages numbers:List Int)(t:Int)(ov:Bool):(begunM s pages numbers t ov numbers).Named:=by show (numbers++[]).Perm numbers;rw[xF]
theorem qrL{kd:Int}(A:M.Wf)(h:M.Named):(makeV M kd l).2.Named:=by
 unfold makeV;split;exact h;split;exact h;split;exact h;rename_i n r y;have u:n∉M.fresh.map (·.1):=fun C=>by have z:=A.nodup;rw[y,xH,nodup_cons] at z;exact z.1 (zI _ (zI _ (zI _ C)))
 show (r++(setL n (kd,l) M.fresh).map (·.1)).Perm M.named;rw[qpw u,xJ,<- zV];refine (perm_append_singleton n _).trans ?_
 have:=h
 rw[PgM.Named,y] at this;exact this
theorem qtn{kd:Int}(h:M.Named):(putV M n kd l).2.Named:=by unfold putV;split;exact h;split;exact h;rename_i q u;split;exact h;have y:n∈M.fresh.map (·.1):=mem_map.2 ⟨_,(qaY u).2,rfl⟩;show (M.free++(setL n (kd,l) M.fresh).map (·.1)).Perm M.named;rw[qns y];exact h
theorem qrv(A:M.Wf)(h:M.Named):(dropV M n).2.Named:=by
 unfold dropV;split;exact h;split;rename_i q C;have y:n∈M.fresh.map (·.1):=mem_map.2 ⟨_,(qaY C).2,rfl⟩;have z:=A.nodup;have u:n∉M.free:=fun h=>by rw[yL] at z;exact z.2.2 n h n (zI _ (zI _ y)) rfl
 show (ins n M.free++(delL n M.fresh).map (·.1)).Perm M.named;refine (((qcs u).append_right _).trans ?_).trans h;exact perm_middle.symm.trans ((qmQ y).symm.append_left M.free);split;exact h;exact h
theorem PgM.Named.mem(h:M.Named)(x:Int):x∈M.named↔x∈M.free\/x∈M.fresh.map (·.1):=by rw[<- h.mem_iff,zD]
def strL (l:List Int):ByteArray:=⟨(Lib.bytesOf l).toArray⟩
theorem qcR(l:List Int):(strL l).size=l.length:=by simp[strL,ByteArray.size,Lib.bytesOf]
theorem quP(a b:List Int):strL a++strL b=strL (a++b):=by apply ByteArray.ext;simp[strL,Lib.bytesOf]
theorem qpC(l:List Int)(i j:Nat)(h:i<=j)(u:j<=l.length):(strL l).extract i j=strL ((l.take j).drop i):=by apply ByteArray.ext;simp[strL,Lib.bytesOf,drop_take]
theorem qwk{src dst e:TypeId}(h:RdB S w s l)(hB:IsB l)(hs:prog.underlying src=some (.slice e))(he:prog.underlying e=some (.int .u8))(hd:prog.underlying dst=some .string): (convert src dst (.slice s.a s.len s.cap)).run prog w=.ok (.string (strL l)) w:=by
 cases ha:s.a with
 | none=>
  have hl0:l=[]:=by rcases h.2.2 with h3|⟨b,o,cs,T,fr,ha',_⟩;exact h3;rw[ha] at ha';cases ha'
  subst hl0;rw[run_convert_bytes_string w src dst e none s.len s.cap hs he hd,h.1];rfl
 | some a=>
  have hc:=h.cells qas ha;have hlen:s.len=(Lib.bytesOf l).length:=(by rw[h.1];simp[Lib.bytesOf]);rw[hlen];refine run_convert_bytes_back w src dst e a s.cap (Lib.bytesOf l) hs he hd fun j hj=>?_;have hj':j<l.length:=(by simpa[Lib.bytesOf] using hj);have hx:=hB l[j] (zW hj');rw[hc j (.int .u8 l[j]) (by rw[qaF,zQ,zA hj'];rfl)];simp[Lib.bytesOf];omega
theorem qpr{src dst e:TypeId}(h:RdB S w s l)(hB:IsB l)(hs:prog.underlying src=some (.slice e))(he:prog.underlying e=some (.int .u8))(hd:prog.underlying dst=some .string)(k:K (strL l)): runQ [.one .str] (fun w'=>(convert src dst (.slice s.a s.len s.cap)).run prog w') w K:=by unfold runQ;exact⟨strL l,qwk h hB hs he hd,k⟩
theorem qwg(h:RdB S w s l)(hB:IsB l)(k:K (strL l)): runQ [.one .str] (fun w'=>(convert 27 9 (.slice s.a s.len s.cap)).run prog w') w K:=qpr (e:=5) h hB oK oK oK k
theorem qty{src dst e:TypeId}{K:Sl->World->Prop}(hB:IsB l)(hs:prog.underlying src=some .string)(hd:prog.underlying dst=some (.slice e))(he:prog.underlying e=some (.int .u8))(k:∀s w',(∀G:List Nat,(∀b∈G,b<w.heap.size)->RdB G w' s l)->Fr [] w w'->K s w'): Pt.run [Ty1.one Cell.slice] ((convert src dst (.string (strL l))).run prog w) K:=by
 have hrun:=run_bytes_of_string (P:=prog) w src dst e (strL l) hs hd he;have hsz:=qcR l;have hge:(strL l).size<=grownCap w (strL l).size 0 e:=grownCap_ge w (strL l).size 0 e;generalize grownCap w (strL l).size 0 e=G at hrun hge;refine qc7 ⟨_,_,_⟩ _ hrun<|k _ _ (fun g hg=>⟨hsz,hge,?_⟩) ((Fr.refl [] w).drew.alloc _);by_cases hl:l=[];exact .inl hl;refine .inr ⟨w.heap.size,0,bytesRow (strL l) G,e,_,rfl,by rw[qbh];exact if_pos rfl,fun hm=>absurd (hg _ hm) (Nat.lt_irrefl _),fun i x hx=>?_⟩;have hi:=(zP.1 hx).1;have hxB:=hB x (yE hx);have e1:(bytesRow (strL l) G).toList[i]?=some (.int .u8 x):=by unfold bytesRow;rw[Array.toList_append,yY (by simp[strL,Lib.bytesOf];exact hi)];simp[strL,Lib.bytesOf,hx];omega
 rw[xO,xP];apply List.ext_getElem?;intro j;rw[xA,yZ];cases j with
 | zero=>rw[if_pos oM,Nat.add_zero,e1];rfl
 | succ j=>rw[iN];rfl
theorem qwj{lo hi:Option Int}(a b:Nat)(h:lo.getD 0=a)(u:hi.getD l.length=b)(y:a<=b)(z:b<=l.length)(k:K (strL ((l.take b).drop a))):slcS (strL l) lo hi K:=by unfold slcS;rw[qcR];refine⟨⟨oJ,oJ,oJ⟩,?_⟩;rw[h,u,zJ,zJ,qpC l a b y z];exact k
end
section
open Go Go.Pt List
open Go.IntKind (wrap)
open Classical
variable {D:DiskM} {L L2:Prs} {M:PgM} {N Nl Nr:NodeM} {R R1 R2 b:List Int} {h n1 n2:Nat} {kd n p q:Int} {key m:Key} {r:Int×List Int}
def lookv {β:Type} (n:Int) (l:List (Int×β)):Option β:=(look n l).map (·.2)
theorem qbj{β:Type}(n:Int)(p:Int×β)(r:List (Int×β)):lookv n (p::r)=if n=p.1 then some p.2 else lookv n r:=by unfold lookv;rw[look];split;rfl;cases look n r<;>rfl
theorem qtA{β:Type}(n:Int)(v:β)(p:Int×β)(r:List (Int×β)):setL n v (p::r)=if n=p.1 then (n,v)::r else p::setL n v r:=by by_cases h:n=p.1;rw[if_pos h];unfold setL;rw[look,if_pos h];rfl;rw[if_neg h];unfold setL;rw[look,if_neg h];cases look n r<;>rfl
theorem qsI{β:Type}(n:Int)(p:Int×β)(r:List (Int×β)):delL n (p::r)=if n=p.1 then r else p::delL n r:=by by_cases h:n=p.1;rw[if_pos h];unfold delL;rw[look,if_pos h];rfl;rw[if_neg h];unfold delL;rw[look,if_neg h];cases look n r<;>rfl
theorem qfx{β:Type}(n q:Int)(v:β):∀l:List (Int×β),lookv q (setL n v l)=if q=n then some v else lookv q l
 | []=>by show lookv q [(n,v)]=_;rw[qbj]
 | p::r=>by rw[qtA];by_cases h:n=p.1;rw[if_pos h,qbj,qbj,<- h];by_cases h2:q=n;rw[if_pos h2,if_pos h2];rw[if_neg h2,if_neg h2,if_neg h2];rw[if_neg h,qbj,qfx n q v r,qbj];by_cases h2:q=p.1;rw[if_pos h2,if_neg (fun e=>h (by rw[<- e,h2])),if_pos h2];rw[if_neg h2,if_neg h2]
theorem qce{β:Type}{l:List (Int×β)}:lookv n l=none↔n∉l.map (·.1):=by unfold lookv;rw[Option.map_eq_none_iff,qa4]
theorem qm5{β:Type}(n q:Int):∀l:List (Int×β),(l.map (·.1)).Nodup->lookv q (delL n l)=if q=n then none else lookv q l
 | [],_=>by show lookv q []=_;split<;>rfl
 | p::r,y=>by have u:=nodup_cons.1 (show (p.1::r.map (·.1)).Nodup from y);rw[qsI];by_cases h:n=p.1;rw[if_pos h,qbj];by_cases h2:q=n;rw[if_pos h2,h2,h];exact qce.2 u.1;rw[if_neg h2,if_neg (fun e=>h2 (by rw[e,h]))];rw[if_neg h,qbj,qm5 n q r u.2,qbj];by_cases h2:q=p.1;rw[if_pos h2,if_neg (fun e=>h (by rw[<- e,h2])),if_pos h2];rw[if_neg h2,if_neg h2]
theorem qs1(n:Int):∀l:List Int,l.length<=(ins n l).length
 | []=>yW _
 | a::l=>by
  have:=qs1 n l
  simp only[ins];split;simp;split;exact zM _;simp only[yH];omega
theorem qaw:usedV M n=true↔2<=n/\n<M.sup.2.getD 0 0/\n∉M.lists/\n∉M.free/\n∉M.deferred/\lookv n M.fresh=none:=by unfold usedV lookv;rw[Option.map_eq_none_iff];simp only[yA,zT,Bool.or_eq_false_iff,decide_eq_false_iff_not,Option.isNone_iff_eq_none];constructor;rintro⟨⟨⟨⟨⟨A,C⟩,h⟩,u⟩,y⟩,z⟩;exact⟨oJ,oJ,h,u,y,z⟩;rintro⟨A,C,h,u,y,z⟩;exact⟨⟨⟨⟨⟨oJ,oJ⟩,h⟩,u⟩,y⟩,z⟩
def InUse (M:PgM) (x:Int):Prop:=x∈M.fresh.map (·.1)\/usedV M x=true
theorem fresh_look{x:Int}:x∈M.fresh.map (·.1)↔∃q,lookv x M.fresh=some q:=by
 constructor;intro h;cases e:lookv x M.fresh with
 | none=>exact absurd h (qce.1 e)
 | some q=>exact⟨q,rfl⟩
 rintro⟨q,e⟩;exact Classical.byContradiction fun h=>by rw[qce.2 h] at e;cases e
theorem qn2(h:M.over=false)(n:Int):pagerReadM D M n=match lookv n M.fresh with
  | some q=>(q.1,q.2,0)
  | none=>if usedV M n=false then (0,[],10) else if (readV D n).2≠0 then (0,[],(readV D n).2) else openV n (readV D n).1:=by
 unfold pagerReadM lookv;rw[if_neg (by rw[h];decide)];cases look n M.fresh<;>rfl
theorem qiF(u:M.over=false)(h:(pagerReadM D M n).2.2=0):InUse M n:=by
 rw[qn2 u] at h;cases e:lookv n M.fresh with
 | some q=>exact .inl (fresh_look.2 ⟨q,e⟩)
 | none=>
  rw[e] at h;dsimp only at h;split at h;cases h;rename_i y;exact .inr (oP y)
theorem qtr(M:PgM)(u:M.over=false){q:Int×List Int}(h:lookv n M.fresh=some q):pagerReadM D M n=(q.1,q.2,0):=by rw[qn2 u,h]
theorem qeB(M':PgM)(u:M.over=false)(h:M'.over=false)(y:lookv n M'.fresh=lookv n M.fresh)(z:usedV M' n=usedV M n):pagerReadM D M' n=pagerReadM D M n:=by rw[qn2 u,qn2 h,y,z]
theorem qdx(M':PgM)(h:lookv n M'.fresh=lookv n M.fresh)(u:usedV M' n=usedV M n):InUse M' n↔InUse M n:=by unfold InUse;rw[fresh_look,fresh_look,h,u]
theorem qdy(u:M.Wf){x:Int}(h:InUse M x):2<=x/\x<M.sup.2.getD 0 0:=by rcases h with h|h;exact u.range x (by simp only[zD];exact .inr (.inr (.inr h)));exact⟨(qaw.1 h).1,(qaw.1 h).2.1⟩
structure Turned (D:DiskM) (M M':PgM) (q p:Int) (r:Option (Int×List Int)):Prop where
 wf:M'.Wf
 over:M'.over=false
 roots:M'.roots=M.roots
 sup:M'.sup=M.sup
 lists:M'.lists=M.lists
 named:M'.named=M.named
 Named:M.Named->M'.Named
 turn:M'.turn=M.turn
 rest:∀ x,x≠q->x≠p->pagerReadM D M' x=pagerReadM D M x
 use:∀ x,x≠q->x≠p->(InUse M' x↔InUse M x)
 old:∀ x,usedV M' x=true->usedV M x=true
 wrote:∀ y,r=some y->pagerReadM D M' q=(y.1,y.2,0)/\InUse M' q
 left:p≠q->¬ InUse M' p
section
variable {D:DiskM} {M:PgM}
theorem qp9{A:List Int}(I:M.Wf)(E:M.over=false)(hk:0<=kd/\kd<256)(hB:IsB b)(hl:b.length<=500)(G:M.free=n::A): ∃M',makeV M kd b=((n,0),M')/\Turned D M M' n n (some (kd,b))/\¬InUse M n/\M'.free=A/\M'.deferred=M.deferred:=by
 have e:makeV M kd b=((n,0),{ M with free:=A,fresh:=setL n (kd,b) M.fresh }):=(by rw[makeV,if_neg (by rw[E];decide),iN,G]);have hw:=(qq0 (kind:=kd) (body:=b) I hk hB).1;rw[e] at hw;have J:(n::(A++(M.deferred++(M.lists++M.fresh.map (·.1))))).Nodup:=(by have:=I.nodup;rw[G] at this;exact this);have K:=nodup_cons.1 J;have O:n∉M.fresh.map (·.1):=fun h=>K.1 (by simp only[zD];exact .inr (.inr (.inr h)));have Q:¬InUse M n:=fun h=>by rcases h with h|h;exact O h;exact (qaw.1 h).2.2.2.1 (by rw[G];simp)
 have u:∀x,lookv x (setL n (kd,b) M.fresh)=if x=n then some (kd,b) else lookv x M.fresh:=fun x=>qfx n x _ _
 have C:∀x,x≠n->usedV { M with free:=A,fresh:=setL n (kd,b) M.fresh } x=usedV M x:=fun x z=>by rw[Bool.eq_iff_iff,qaw,qaw];dsimp only;rw[u,if_neg z,G,zG];constructor;rintro⟨R,U,V,h4,h5⟩;exact⟨R,U,V,fun h=>h.elim z h4,h5⟩;rintro⟨R,U,V,h4,h5⟩;exact⟨R,U,V,fun h=>h4 (.inr h),h5⟩
 refine⟨_,e,⟨hw,E,rfl,rfl,rfl,rfl,fun h=>?_,rfl,fun x z _=>qeB { M with free:=A,fresh:=setL n (kd,b) M.fresh } E E (by dsimp only;rw[u,if_neg z]) (C x z),fun x z _=>qdx { M with free:=A,fresh:=setL n (kd,b) M.fresh } (by dsimp only;rw[u,if_neg z]) (C x z),fun x z=>?_,fun y hy=>?_,fun h=>absurd rfl h⟩,Q,rfl,rfl⟩
 have:=qrL (kd:=kd) (l:=b) I h
 rw[e] at this;exact this;by_cases hxn:x=n
 have:=(qaw.1 z).2.2.2.2.2
 dsimp only at this;rw[u,if_pos hxn] at this;cases this;rw[C x hxn] at z;exact z;cases hy;refine⟨?_,.inl (fresh_look.2 ⟨(kd,b),by dsimp only;rw[u,if_pos rfl]⟩)⟩;exact qtr { M with free:=A,fresh:=setL n (kd,b) M.fresh } E (by dsimp only;rw[u,if_pos rfl])
theorem qrW(I:M.Wf)(C:M.over=false)(J:0<=kd/\kd<256)(K:IsB b)(U:b.length<=500)(O:n∈M.fresh.map (·.1)): ∃M',putV M n kd b=(0,M')/\Turned D M M' n n (some (kd,b))/\M'.free=M.free/\M'.deferred=M.deferred:=by
 obtain⟨v,E⟩:=fresh_look.1 O;have e:putV M n kd b=(0,{ M with fresh:=setL n (kd,b) M.fresh }):=by unfold lookv at E;obtain⟨q,Q,_⟩:=yS.1 E;rw[putV,if_neg (by rw[C];decide),Q];dsimp only;rw[iN]
 have G:=(qtp (n:=n) (kind:=kd) (body:=b) I J K).1;rw[e] at G;have u:∀x,lookv x (setL n (kd,b) M.fresh)=if x=n then some (kd,b) else lookv x M.fresh:=fun x=>qfx n x _ _
 have A:∀x,usedV { M with fresh:=setL n (kd,b) M.fresh } x=usedV M x:=fun x=>by rw[Bool.eq_iff_iff,qaw,qaw];dsimp only;rw[u];by_cases z:x=n;rw[if_pos z,z,E];simp;rw[if_neg z]
 refine⟨_,e,⟨G,C,rfl,rfl,rfl,rfl,fun h=>?_,rfl,fun x z _=>qeB { M with fresh:=setL n (kd,b) M.fresh } C C (by dsimp only;rw[u,if_neg z]) (A x),fun x z _=>qdx { M with fresh:=setL n (kd,b) M.fresh } (by dsimp only;rw[u,if_neg z]) (A x),fun x z=>by rw[A x] at z;exact z,fun y R=>?_,fun h=>absurd rfl h⟩,rfl,rfl⟩
 have:=qtn (n:=n) (kd:=kd) (l:=b) h
 rw[e] at this;exact this;cases R;refine⟨?_,.inl (fresh_look.2 ⟨(kd,b),by dsimp only;rw[u,if_pos rfl]⟩)⟩;exact qtr { M with fresh:=setL n (kd,b) M.fresh } C (by dsimp only;rw[u,if_pos rfl])
theorem qto(h:M.over=false)(u:n∉M.fresh.map (·.1)):putV M n kd b=(10,M):=by rw[putV,if_neg (by rw[h];decide),qa4.2 u]
theorem qjH(hW:M.Wf)(K:M.over=false)(hu:InUse M n)(G:n≠q:=by omega): ∃M',dropV M n=(0,M')/\Turned D M M' q n none/\(pagerReadM D M' q=pagerReadM D M q)/\(InUse M' q↔InUse M q)/\M.free.length<=M'.free.length:=by
 have hw:=qqJ (n:=n) hW;by_cases hf:n∈M.fresh.map (·.1);obtain⟨v,hv⟩:=fresh_look.1 hf;have ad:(M.fresh.map (·.1)).Nodup:=hW.keysNodup;have e:dropV M n=(0,{ M with fresh:=delL n M.fresh,free:=ins n M.free }):=by unfold lookv at hv;obtain⟨y,I,_⟩:=yS.1 hv;rw[dropV,if_neg (by rw[K];decide),I]
 rw[e] at hw;have J:∀x,lookv x (delL n M.fresh)=if x=n then none else lookv x M.fresh:=fun x=>qm5 n x _ ad
 have A:∀x,x≠n->usedV { M with fresh:=delL n M.fresh,free:=ins n M.free } x=usedV M x:=fun x u=>by rw[Bool.eq_iff_iff,qaw,qaw];dsimp only;rw[J,if_neg u,qdt];constructor;rintro⟨O,Q,R,U,V⟩;exact⟨O,Q,R,fun h=>U (.inr h),V⟩;rintro⟨O,Q,R,U,V⟩;exact⟨O,Q,R,fun h=>h.elim u U,V⟩
 have C:¬InUse { M with fresh:=delL n M.fresh,free:=ins n M.free } n:=fun h=>by rcases h with h|h;obtain⟨y,I⟩:=fresh_look.1 h;dsimp only at I;rw[J,if_pos rfl] at I;cases I;exact (qaw.1 h).2.2.2.1 (qdt.2 (.inl rfl))
 have E:∀x,x≠n->pagerReadM D { M with fresh:=delL n M.fresh,free:=ins n M.free } x=pagerReadM D M x:=fun x u=>qeB { M with fresh:=delL n M.fresh,free:=ins n M.free } K K (by dsimp only;rw[J,if_neg u]) (A x u);have z:∀x,x≠n->(InUse { M with fresh:=delL n M.fresh,free:=ins n M.free } x↔InUse M x):=fun x u=>qdx { M with fresh:=delL n M.fresh,free:=ins n M.free } (by dsimp only;rw[J,if_neg u]) (A x u);refine⟨_,e,⟨hw,K,rfl,rfl,rfl,rfl,fun h=>?_,rfl,fun x _ u=>E x u,fun x _ u=>z x u,fun x u=>?_,fun y I=>(nomatch I),fun _=>C⟩,E q fun e=>G e.symm,z q fun e=>G e.symm,?_⟩
 have:=qrv (n:=n) hW h
 rw[e] at this;exact this;by_cases hxn:x=n;subst hxn;exact absurd (.inr u) C;rw[A x hxn] at u;exact u;exact qs1 n M.free;have aa:usedV M n=true:=hu.resolve_left hf;have e:dropV M n=(0,{ M with deferred:=ins n M.deferred }):=by rw[dropV,if_neg (by rw[K];decide),qa4.2 hf];dsimp only;rw[if_pos aa]
 rw[e] at hw;have A:∀x,x≠n->usedV { M with deferred:=ins n M.deferred } x=usedV M x:=fun x u=>by rw[Bool.eq_iff_iff,qaw,qaw];dsimp only;rw[qdt];constructor;rintro⟨O,Q,R,U,V,h6⟩;exact⟨O,Q,R,U,fun h=>V (.inr h),h6⟩;rintro⟨O,Q,R,U,V,h6⟩;exact⟨O,Q,R,U,fun h=>h.elim u V,h6⟩
 have C:¬InUse { M with deferred:=ins n M.deferred } n:=fun h=>by rcases h with h|h;exact hf h;exact (qaw.1 h).2.2.2.2.1 (qdt.2 (.inl rfl))
 have E:∀x,x≠n->pagerReadM D { M with deferred:=ins n M.deferred } x=pagerReadM D M x:=fun x u=>qeB { M with deferred:=ins n M.deferred } K K rfl (A x u);have z:∀x,x≠n->(InUse { M with deferred:=ins n M.deferred } x↔InUse M x):=fun x u=>qdx { M with deferred:=ins n M.deferred } rfl (A x u);refine⟨_,e,⟨hw,K,rfl,rfl,rfl,rfl,fun h=>?_,rfl,fun x _ u=>E x u,fun x _ u=>z x u,fun x u=>?_,fun y I=>(nomatch I),fun _=>C⟩,E q fun e=>G e.symm,z q fun e=>G e.symm,zM _⟩;exact h;by_cases hxn:x=n;subst hxn;exact absurd (.inr u) C;rw[A x hxn] at u;exact u
end
noncomputable def loadN (D:DiskM) (M:PgM) (k v:Nat) (p:Int):NodeM×Int:=
 if (pagerReadM D M p).2.2≠0 then (zeroN,(pagerReadM D M p).2.2) else readNV (pagerReadM D M p).1 (pagerReadM D M p).2.1 k v
noncomputable def storeN (k v:Nat) (M:PgM) (p:Int) (n:NodeM):(Int×Int)×PgM:=
 if (writeNV n k v).2.2≠0 then ((0,2),M)
 else if p≠0/\(putV M p (writeNV n k v).1 (writeNV n k v).2.1).1≠10 then ((p,(putV M p (writeNV n k v).1 (writeNV n k v).2.1).1),(putV M p (writeNV n k v).1 (writeNV n k v).2.1).2)
 else if (makeV M (writeNV n k v).1 (writeNV n k v).2.1).1.2=0/\p≠0 then (((makeV M (writeNV n k v).1 (writeNV n k v).2.1).1.1,(dropV (makeV M (writeNV n k v).1 (writeNV n k v).2.1).2 p).1),(dropV (makeV M (writeNV n k v).1 (writeNV n k v).2.1).2 p).2)
 else makeV M (writeNV n k v).1 (writeNV n k v).2.1
structure NodeOk (n:NodeM) (k v:Nat):Prop where
 right:rightV n k v
 keys:∀ a∈n.keys,IsB a
 vals:∀ a∈n.vals,IsB a
 kids:∀ x∈n.kids,x<4294967296
theorem NodeOk.load{k v:Nat}{n:NodeM}(h:NodeOk n k v)(u:pagerReadM D M p=(kindN n,bodyN n,0)):loadN D M k v p=(n,0):=by unfold loadN;rw[u];exact (if_neg (fun h=>h rfl)).trans (qlM h.right h.kids)
theorem qpB{k v:Nat}{n:NodeM}(R:M.Wf)(ho:M.over=false)(U:NodeOk n k v)(O:p=0\/InUse M p)(hf:M.free≠[]): ∃q M',storeN k v M p n=((q,0),M')/\Turned D M M' q (if p=0 then q else p) (some (kindN n,bodyN n))/\(q=p\/¬InUse M q)/\M.free.length<=M'.free.length+1/\(p∈M.fresh.map (·.1)->q=p/\M'.free=M.free):=by
 have hw:writeNV n k v=(kindN n,bodyN n,0):=(by unfold writeNV;rw[if_pos U.right]);have hB:=qh8 U.keys U.vals;have hl:=(qfk U.right).2;have hk:0<=kindN n/\kindN n<256:=(by unfold kindN;split<;>exact⟨oM,oM⟩);unfold storeN;rw[hw];dsimp only;rw[if_neg (fun h=>h rfl)];obtain⟨q,V,E⟩:∃q V,M.free=q::V:=by
  cases e:M.free with
  | nil=>exact absurd e hf
  | cons q V=>exact⟨q,V,rfl⟩
 obtain⟨M1,e1,u,G,Q,_⟩:=qp9 (D:=D) R ho hk hB hl E;rcases O with rfl|O;rw[if_neg (fun h=>h.1 rfl),if_neg (fun h=>h.2 rfl),e1];refine⟨q,M1,rfl,by rw[if_pos rfl];exact u,.inr G,by rw[E,Q];exact zM _,fun h=>?_⟩
 have:=(qdy R (.inl h)).1
 omega;have A:p≠0:=(by have:=(qdy R O).1;omega);by_cases hfp:p∈M.fresh.map (·.1);obtain⟨M2,e2,z,I,_⟩:=qrW (D:=D) R ho hk hB hl hfp;rw[e2,if_pos ⟨A,(show (0:Int)≠10 by decide)⟩];exact⟨p,M2,rfl,by rw[if_neg A];exact z,.inl rfl,by rw[I];omega,fun _=>⟨rfl,I⟩⟩;rw[qto ho hfp,if_neg (fun h=>h.2 rfl),e1,if_pos ⟨rfl,A⟩];have J:p≠q:=fun e=>G (e▸O);have ad:InUse M1 p:=(u.use p J J).2 O;obtain⟨M2,e2,z,ae,af,I⟩:=qjH (D:=D) u.wf u.over ad J;dsimp only;rw[e2];refine⟨q,M2,rfl,?_,.inr G,by rw[E,yH,<- Q];omega,fun h=>absurd h hfp⟩;rw[if_neg A];exact⟨z.wf,z.over,z.roots.trans u.roots,z.sup.trans u.sup,z.lists.trans u.lists,z.named.trans u.named,fun h=>z.Named (u.Named h),z.turn.trans u.turn,fun x C K=>(z.rest x C K).trans (u.rest x C C),fun x C K=>(z.use x C K).trans (u.use x C C),fun x C=>u.old x (z.old x C),fun y hy=>by
  have:=u.wrote y hy
  exact⟨ae.trans this.1,af.2 this.2⟩,fun h=>z.left h⟩
section
structure Grown where
 page:Int
 fresh:Bool
 key:Key
 other:Int
def zeroG:Grown:=⟨0,false,[],0⟩
def insAt {α:Type} (l:List α) (i:Nat) (x:α):List α:=l.take i++[x]++l.drop i
def sizeN (n:NodeM) (k v:Nat):Nat×Nat:=if n.leaf then (n.keys.length,(capsV k v).1) else (n.kids.length,(capsV k v).2)
def halvesN (n:NodeM) (mid:Nat):NodeM×NodeM×Key:=
 if n.leaf then ({ n with keys:=n.keys.take mid,vals:=n.vals.take mid },{ n with keys:=n.keys.drop mid,vals:=n.vals.drop mid },n.keys.getD mid [])
 else ({ n with kids:=n.kids.take mid,keys:=n.keys.take (mid-1) },{ n with kids:=n.kids.drop mid,keys:=n.keys.drop mid },n.keys.getD (mid-1) [])
noncomputable def splitN (k v:Nat) (M:PgM) (p:Int) (n:NodeM) (fresh:Bool):(Grown×Int)×PgM:=
 if (sizeN n k v).1>(sizeN n k v).2 then
  if (storeN k v M 0 (halvesN n ((sizeN n k v).1 / 2)).2.1).1.2≠0 then ((zeroG,(storeN k v M 0 (halvesN n ((sizeN n k v).1 / 2)).2.1).1.2),(storeN k v M 0 (halvesN n ((sizeN n k v).1 / 2)).2.1).2)
  else ((⟨(storeN k v (storeN k v M 0 (halvesN n ((sizeN n k v).1 / 2)).2.1).2 p (halvesN n ((sizeN n k v).1 / 2)).1).1.1,fresh,(halvesN n ((sizeN n k v).1 / 2)).2.2,(storeN k v M 0 (halvesN n ((sizeN n k v).1 / 2)).2.1).1.1⟩,
    (storeN k v (storeN k v M 0 (halvesN n ((sizeN n k v).1 / 2)).2.1).2 p (halvesN n ((sizeN n k v).1 / 2)).1).1.2),
    (storeN k v (storeN k v M 0 (halvesN n ((sizeN n k v).1 / 2)).2.1).2 p (halvesN n ((sizeN n k v).1 / 2)).1).2)
 else ((⟨(storeN k v M p n).1.1,fresh,[],0⟩,(storeN k v M p n).1.2),(storeN k v M p n).2)
def grownN (n:NodeM) (c:Nat) (g:Grown):NodeM:=
 if g.other≠0 then { n with kids:=insAt (n.kids.set c g.page) (c+1) g.other,keys:=insAt n.keys c g.key } else { n with kids:=n.kids.set c g.page }
noncomputable def putN (D:DiskM) (k v:Nat) (key val:Key):Nat->PgM->Int->(Grown×Int)×PgM
 | 0,M,_=>((zeroG,-1),M)
 | f+1,M,p=>
  if (loadN D M k v p).2≠0 then ((zeroG,(loadN D M k v p).2),M)
  else if (loadN D M k v p).1.leaf then
   if (loadN D M k v p).1.keys[placeV (loadN D M k v p).1.keys key]?=some key then splitN k v M p { (loadN D M k v p).1 with vals:=(loadN D M k v p).1.vals.set (placeV (loadN D M k v p).1.keys key) val } false
   else splitN k v M p { (loadN D M k v p).1 with keys:=insAt (loadN D M k v p).1.keys (placeV (loadN D M k v p).1.keys key) key,vals:=insAt (loadN D M k v p).1.vals (placeV (loadN D M k v p).1.keys key) val } true
  else if (putN D k v key val f M ((loadN D M k v p).1.kids.getD (kidV (loadN D M k v p).1.keys key) 0)).1.2≠0 then
   ((zeroG,(putN D k v key val f M ((loadN D M k v p).1.kids.getD (kidV (loadN D M k v p).1.keys key) 0)).1.2),(putN D k v key val f M ((loadN D M k v p).1.kids.getD (kidV (loadN D M k v p).1.keys key) 0)).2)
  else if (putN D k v key val f M ((loadN D M k v p).1.kids.getD (kidV (loadN D M k v p).1.keys key) 0)).1.1.page=(loadN D M k v p).1.kids.getD (kidV (loadN D M k v p).1.keys key) 0/\(putN D k v key val f M ((loadN D M k v p).1.kids.getD (kidV (loadN D M k v p).1.keys key) 0)).1.1.other=0 then
   ((⟨p,(putN D k v key val f M ((loadN D M k v p).1.kids.getD (kidV (loadN D M k v p).1.keys key) 0)).1.1.fresh,[],0⟩,0),(putN D k v key val f M ((loadN D M k v p).1.kids.getD (kidV (loadN D M k v p).1.keys key) 0)).2)
  else splitN k v (putN D k v key val f M ((loadN D M k v p).1.kids.getD (kidV (loadN D M k v p).1.keys key) 0)).2 p (grownN (loadN D M k v p).1 (kidV (loadN D M k v p).1.keys key) (putN D k v key val f M ((loadN D M k v p).1.kids.getD (kidV (loadN D M k v p).1.keys key) 0)).1.1) (putN D k v key val f M ((loadN D M k v p).1.kids.getD (kidV (loadN D M k v p).1.keys key) 0)).1.1.fresh
structure Seg where
 page:Int
 size:Nat
 prs:Prs
 pages:List Int
abbrev Ent:=Key×Seg
def lfOf (L:Prs):NodeM:=⟨true,L.map (·.1),L.map (·.2),[]⟩
def inOf (es:List Ent):NodeM:=⟨false,(es.map (·.1)).tail,[],es.map (·.2.page)⟩
structure SepE (es:List Ent):Prop where
 pair:es.Pairwise fun a b=>KLt a.1 b.1/\∀ x∈a.2.prs,KLt x.1 b.1
 low:∀ e∈es,∀ x∈e.2.prs,KLe e.1 x.1
def minOf (k v:Nat) (h:Nat):Nat:=if h=0 then (capsV k v).1 / 2 else (capsV k v).2 / 2
def Has (D:DiskM) (M:PgM) (k v:Nat):Nat->Seg->Prop
 | 0,s=>s.pages=[s.page]/\s.size=s.prs.length/\NodeOk (lfOf s.prs) k v/\pagerReadM D M s.page=(3,bodyN (lfOf s.prs),0)
 | h+1,s=>∃u:List Ent,(u.map (·.1)).head?=some []/\s.size=u.length/\s.prs=u.flatMap (·.2.prs)/\s.pages=s.page::u.flatMap (·.2.pages)/\NodeOk (inOf u) k v/\pagerReadM D M s.page=(4,bodyN (inOf u),0)/\SepE u/\
   ∀e∈u,Has D M k v h e.2/\minOf k v h<=e.2.size
theorem qez(x:Key):KLe [] x:=by unfold KLe KLt;cases x<;>simp[cmpL]
theorem qj1{x:Key}:¬KLt x []:=qez x
section
variable {D:DiskM} {M M':PgM} {k v:Nat}
theorem Has.mem:∀ {h:Nat} {s:Seg},Has D M k v h s->s.page∈s.pages
 | 0,s,u=>by rw[u.1];simp
 | h+1,s,⟨z,_,_,_,y,_⟩=>by rw[y];simp
theorem Has.frame:∀ {h:Nat} {s:Seg},Has D M k v h s->(∀x∈s.pages,pagerReadM D M' x=pagerReadM D M x)->Has D M' k v h s
 | 0,s,⟨y,A,u,C⟩,z=>⟨y,A,u,by rw[z s.page (by rw[y];simp)];exact C⟩
 | h+1,s,⟨I,J,y,A,u,C,K,O,G⟩,z=>⟨I,J,y,A,u,C,by rw[z s.page (by rw[u];simp)];exact K,O,fun e E=>⟨(G e E).1.frame fun x Q=>z x (by rw[u];exact zN _ (yJ.2 ⟨e,E,Q⟩)),(G e E).2⟩⟩
theorem Has.read:∀ {h:Nat} {s:Seg},Has D M k v h s->∀x∈s.pages,(pagerReadM D M x).2.2=0
 | 0,s,⟨y,C,z,A⟩,x,u=>by rw[y] at u;rw[zE.1 u,A]
 | h+1,s,⟨J,K,y,C,z,A,E,O,G⟩,x,u=>by rw[z] at u;rcases zG.1 u with rfl|u;rw[E];obtain⟨e,I,u⟩:=yJ.1 u;exact (G e I).1.read x u
theorem Has.used(u:M.over=false){s:Seg}(y:Has D M k v h s):∀x∈s.pages,InUse M x:=fun x z=>qiF u (y.read x z)
theorem rightV.leafNe(h:rightV (lfOf L) k v):L≠[]:=fun e=>by
 have:=h.2.2.2
 rw[if_pos (show (lfOf L).leaf=true from rfl)] at this;have u:=this.2.1;rw[e] at u;exact absurd u oM
theorem rightV.innerTwo{es:List Ent}(h:rightV (inOf es) k v):2<=es.length/\es.length<=(capsV k v).2:=by
 have:=h.2.2.2
 rw[if_neg (show ¬(inOf es).leaf=true from fun e=>nomatch e)] at this;have u:=this.2.2.1;have y:=this.2.2.2.1;have e:(inOf es).kids.length=es.length:=(by show (es.map _).length=_;rw[zK]);rw[e] at u y;exact⟨u,y⟩
theorem Has.ne:∀ {h:Nat} {s:Seg},Has D M k v h s->s.prs≠[]
 | 0,s,⟨A,u,y,z⟩=>y.right.leafNe
 | h+1,s,⟨C,G,A,u,y,z,I,J,E⟩=>fun e=>by
  have:=z.right.innerTwo
  cases C with
  | nil=>simp at this
  | cons a r=>
   rw[u,yG] at e;exact (E a oL).1.ne (append_eq_nil_iff.1 e).1
theorem SepE.mid{A B:List Ent}{e:Ent}(h:SepE (A++e::B)):(∀a∈A,∀x∈a.2.prs,KLt x.1 e.1)/\(∀b∈B,KLt e.1 b.1/\(∀x∈e.2.prs,KLt x.1 b.1)/\∀y∈b.2.prs,KLe b.1 y.1):=by
 have u:=pairwise_append.1 h.pair;refine⟨fun a C x E=>(u.2.2 a C e oL).2 x E,fun b z=>?_⟩
 have:=(yI.1 u.2.1).1 b z
 exact⟨this.1,this.2,h.low b (by simp[z])⟩
theorem SepE.sort:∀ {es:List Ent},SepE es->(∀e∈es,SortP e.2.prs)->SortP (es.flatMap (·.2.prs))
 | [],_,_=>.nil
 | e::es,h,A=>by rw[yG,SortP.app];have C:=yI.1 h.pair;refine⟨A e oL,SepE.sort ⟨C.2,fun e u=>h.low e (zN _ u)⟩ fun e u=>A e (zN _ u),fun x G y z=>?_⟩;obtain⟨b,E,z⟩:=yJ.1 z;exact qbi ((C.1 b E).2 x G) (h.low b (zN _ E) y z)
theorem Has.sort:∀ {h:Nat} {s:Seg},Has D M k v h s->SortP s.prs
 | 0,s,⟨z,u,y,A⟩=>y.right.2.2.1
 | h+1,s,⟨I,J,z,u,y,A,K,C,E⟩=>by rw[u];exact C.sort fun e G=>(E e G).1.sort
def PrsOk (k v:Nat) (L:Prs):Prop:=∀x∈L,x.1.length=k/\x.2.length=v/\IsB x.1/\IsB x.2
theorem Has.prsOk:∀ {h:Nat} {s:Seg},Has D M k v h s->PrsOk k v s.prs
 | 0,s,⟨A,z,y,C⟩=>fun x u=>⟨y.right.1 x.1 (zY u),y.right.2.1 x.2 (zY u),y.keys x.1 (zY u),y.vals x.2 (zY u)⟩
 | h+1,s,⟨I,J,A,z,y,C,K,O,E⟩=>fun x u=>by rw[z] at u;obtain⟨e,G,u⟩:=yJ.1 u;exact (E e G).1.prsOk x u
theorem qgf(y:PrsOk k v L)(z:SortP L)(A:1<=L.length)(C:L.length<=(capsV k v).1):NodeOk (lfOf L) k v:=by refine⟨⟨fun a u=>?_,fun a u=>?_,z,?_⟩,fun a u=>?_,fun a u=>?_,fun x h=>nomatch h⟩;obtain⟨x,h,rfl⟩:=mem_map.1 u;exact (y x h).1;obtain⟨x,h,rfl⟩:=mem_map.1 u;exact (y x h).2.1;rw[if_pos (show (lfOf L).leaf=true from rfl)];refine⟨rfl,?_,?_,?_⟩;show 1<=(L.map _).length;rw[zK];exact A;show (L.map _).length<=_;rw[zK];exact C;show (L.map _).length=(L.map _).length;rw[zK,zK];obtain⟨x,h,rfl⟩:=mem_map.1 u;exact (y x h).2.2.1;obtain⟨x,h,rfl⟩:=mem_map.1 u;exact (y x h).2.2.2
theorem qvn{es:List Ent}(z:∀a∈(es.map (·.1)).tail,a.length=k/\IsB a)(C:Rising (es.map (·.1)).tail)(E:2<=es.length)(G:es.length<=(capsV k v).2)(A:∀e∈es,2<=e.2.page/\e.2.page<4294967296):NodeOk (inOf es) k v:=by refine⟨⟨fun a h=>(z a h).1,fun a h=>(nomatch h),C,?_⟩,fun a h=>(z a h).2,fun a h=>(nomatch h),fun x u=>?_⟩;rw[if_neg (show ¬(inOf es).leaf=true from fun e=>nomatch e)];have e1:(inOf es).kids.length=es.length:=(by show (es.map _).length=_;rw[zK]);have I:(inOf es).keys.length=es.length-1:=(by show ((es.map _).tail).length=_;rw[length_tail,zK]);refine⟨fun x u=>?_,rfl,by rw[e1];exact E,by rw[e1];exact G,by rw[e1,I];omega⟩;obtain⟨e,y,rfl⟩:=mem_map.1 u;exact (A e y).1;obtain⟨e,y,rfl⟩:=mem_map.1 u;exact (A e y).2
theorem SepE.rising{es:List Ent}(h:SepE es):Rising (es.map (·.1)).tail:=by have u:(es.map (·.1)).Pairwise KLt:=pairwise_map.2 (h.pair.imp fun h=>h.1);exact List.Pairwise.sublist (tail_sublist _) u
structure Step (D:DiskM) (M M':PgM) (P P':List Int):Prop where
 wf:M'.Wf
 over:M'.over=false
 roots:M'.roots=M.roots
 sup:M'.sup=M.sup
 lists:M'.lists=M.lists
 named:M'.named=M.named
 Named:M.Named->M'.Named
 turn:M'.turn=M.turn
 rest:∀ x,InUse M x->x∉P->pagerReadM D M' x=pagerReadM D M x/\InUse M' x/\x∉P'
 use:∀ x,InUse M' x->x∈P'\/(InUse M x/\x∉P)
 has:∀ x∈P',InUse M' x
 new:∀ x∈P',x∈P\/¬ InUse M x
 nodup:P'.Nodup
 old:∀ x,usedV M' x=true->usedV M x=true
theorem Step.refl(y:M.Wf)(z:M.over=false){P:List Int}(A:∀x∈P,InUse M x)(C:P.Nodup):Step D M M P P:=
 ⟨y,z,rfl,rfl,rfl,rfl,id,rfl,fun x u E=>⟨rfl,u,E⟩,fun x u=>by by_cases h:x∈P;exact .inl h;exact .inr ⟨u,h⟩,A,fun x u=>.inl u,C,fun x u=>u⟩
theorem Step.perm{P P' Q C:List Int}(h:Step D M M' P P')(A:P.Perm Q)(u:P'.Perm C):Step D M M' Q C:=
 ⟨h.wf,h.over,h.roots,h.sup,h.lists,h.named,h.Named,h.turn,fun x y E=>by obtain⟨G,I,J⟩:=h.rest x y (fun z=>E (A.mem_iff.1 z));exact⟨G,I,fun z=>J (u.mem_iff.2 z)⟩,fun x y=>(h.use x y).imp (fun h=>u.mem_iff.1 h) fun h=>⟨h.1,fun z=>h.2 (A.mem_iff.2 z)⟩,fun x y=>h.has x (u.mem_iff.2 y),fun x y=>(h.new x (u.mem_iff.2 y)).imp (fun h=>A.mem_iff.1 h) id,u.nodup_iff.1 h.nodup,h.old⟩
theorem Step.beside{P P' Z:List Int}(h:Step D M M' P P')(I:∀x∈Z,InUse M x)(K:(Z++P).Nodup):Step D M M' (Z++P) (Z++P'):=by have J:=yL.1 K;have A:∀x∈Z,x∉P:=fun x u E=>J.2.2 x u x E rfl;refine⟨h.wf,h.over,h.roots,h.sup,h.lists,h.named,h.Named,h.turn,fun x u E=>?_,fun x u=>?_,fun x u=>?_,fun x u=>?_,?_,h.old⟩;obtain⟨C,G,O⟩:=h.rest x u (fun z=>E (zI _ z));exact⟨C,G,fun z=>(zD.1 z).elim (fun z=>E (zH _ z)) O⟩;rcases h.use x u with C|⟨C,G⟩;exact .inl (zI _ C);by_cases hz:x∈Z;exact .inl (zH _ hz);exact .inr ⟨C,fun z=>(zD.1 z).elim hz G⟩;rcases zD.1 u with u|u;exact (h.rest x (I x u) (A x u)).2.1;exact h.has x u;rcases zD.1 u with u|u;exact .inl (zH _ u);exact (h.new x u).imp (fun h=>zI _ h) id;rw[yL];exact⟨J.1,h.nodup,fun x u y Q e=>(h.rest x (I x u) (A x u)).2.2 (e▸Q)⟩
theorem Step.trans{M1:PgM}{P Q R:List Int}(h:Step D M M1 P Q)(g:Step D M1 M' Q R):Step D M M' P R:=
 ⟨g.wf,g.over,g.roots.trans h.roots,g.sup.trans h.sup,g.lists.trans h.lists,g.named.trans h.named,fun x=>g.Named (h.Named x),g.turn.trans h.turn,fun x y C=>by
  obtain⟨u,z,A⟩:=h.rest x y C;obtain⟨E,G,I⟩:=g.rest x z A;exact⟨E.trans u,G,I⟩,fun x y=>by
  rcases g.use x y with u|⟨u,z⟩;exact .inl u;exact (h.use x u).elim (fun A=>absurd A z) .inr,g.has,fun x y=>by
  rcases g.new x y with u|u;exact h.new x u;by_cases hP:x∈P;exact .inl hP;by_cases hu:InUse M x;exact absurd (h.rest x hu hP).2.1 u;exact .inr hu,g.nodup,fun x y=>h.old x (g.old x y)⟩
theorem Turned.step(E:M.over=false)(h:Turned D M M' q p (some r))(G:InUse M p)(z:q=p\/¬InUse M q):Step D M M' [p] [q]:=by
 have C:=h.wrote r rfl;refine⟨h.wf,h.over,h.roots,h.sup,h.lists,h.named,h.Named,h.turn,fun x A u=>?_,fun x A=>?_,fun x A=>?_,fun x A=>?_,oL,h.old⟩;have u:x≠p:=(oP u);have y:x≠q:=fun e=>by rcases z with z|z;exact u (e.trans z);exact z (e▸A)
 exact⟨h.rest x y u,(h.use x y u).2 A,by simpa using y⟩;by_cases y:x=q;exact .inl (by simp[y]);by_cases u:x=p;subst u;exact absurd A (h.left (fun e=>y e));exact .inr ⟨(h.use x y u).1 A,by simpa using u⟩;rw[zE.1 A];exact C.2;rw[zE.1 A];rcases z with z|z;exact .inl (by simp[z]);exact .inr z
theorem Turned.fresh(C:M.over=false)(h:Turned D M M' q q (some r))(z:¬InUse M q):Step D M M' [] [q]:=by have A:=h.wrote r rfl;refine⟨h.wf,h.over,h.roots,h.sup,h.lists,h.named,h.Named,h.turn,fun x y _=>?_,fun x y=>?_,fun x y=>?_,fun x y=>?_,oL,h.old⟩;have u:x≠q:=fun e=>z (e▸y);exact⟨h.rest x u u,(h.use x u u).2 y,by simpa using u⟩;by_cases u:x=q;exact .inl (by simp[u]);exact .inr ⟨(h.use x u u).1 y,oL⟩;rw[zE.1 y];exact A.2;rw[zE.1 y];exact .inr z
end
end
section
section
variable {D:DiskM} {M M':PgM} {k v:Nat}
theorem qhn{n:NodeM}(y:M.Wf)(z:M.over=false)(A:NodeOk n k v)(h:InUse M p)(C:M.free≠[]): ∃q M',storeN k v M p n=((q,0),M')/\Step D M M' [p] [q]/\pagerReadM D M' q=(kindN n,bodyN n,0)/\M.free.length<=M'.free.length+1/\(p∈M.fresh.map (·.1)->q=p/\M'.free=M.free):=by obtain⟨q,M',e,t,E,G,I⟩:=qpB (D:=D) y z A (.inr h) C;have u:p≠0:=(by have:=(qdy y h).1;omega);rw[if_neg u] at t;exact⟨q,M',e,t.step z h E,(t.wrote _ rfl).1,G,I⟩
theorem qiQ{n:NodeM}(z:M.Wf)(u:M.over=false)(A:NodeOk n k v)(C:M.free≠[]): ∃q M',storeN k v M 0 n=((q,0),M')/\Step D M M' [] [q]/\pagerReadM D M' q=(kindN n,bodyN n,0)/\M.free.length<=M'.free.length+1/\q≠0:=by obtain⟨q,M',e,t,E,G,_⟩:=qpB (D:=D) z u A (.inl rfl) C;rw[if_pos rfl] at t;have y:=t.wrote _ rfl;have I:=(qdy t.wf y.2).1;have h:¬InUse M q:=E.resolve_left oJ;exact⟨q,M',e,t.fresh u h,y.1,G,oJ⟩
theorem qj8{n:NodeM}{fresh:Bool}(h:M.Wf)(u:M.over=false)(y:NodeOk n k v)(G:(sizeN n k v).1<=(sizeN n k v).2)(z:InUse M p)(A:M.free≠[]): ∃q M',splitN k v M p n fresh=((⟨q,fresh,[],0⟩,0),M')/\Step D M M' [p] [q]/\pagerReadM D M' q=(kindN n,bodyN n,0)/\M.free.length<=M'.free.length+1:=by obtain⟨q,M',e,st,C,E,_⟩:=qhn (D:=D) h u y z A;refine⟨q,M',?_,st,C,E⟩;unfold splitN;rw[iN,e]
theorem qnw{n:NodeM}{fresh:Bool}{mid:Nat}(U:M.Wf)(V:M.over=false)(y:(sizeN n k v).1 / 2=mid)(h1:NodeOk (halvesN n mid).1 k v)(h2:NodeOk (halvesN n mid).2.1 k v)(hs:(sizeN n k v).1>(sizeN n k v).2)(Q:InUse M p)(R:2<=M.free.length): ∃q o M',splitN k v M p n fresh=((⟨q,fresh,(halvesN n mid).2.2,o⟩,0),M')/\o≠0/\Step D M M' [p] [q,o]/\pagerReadM D M' q=(kindN (halvesN n mid).1,bodyN (halvesN n mid).1,0)/\pagerReadM D M' o=(kindN (halvesN n mid).2.1,bodyN (halvesN n mid).2.1,0)/\M.free.length<=M'.free.length+2:=by
 subst y;obtain⟨o,M1,e1,u,G,z,I⟩:=qiQ (D:=D) U V h2 (fun e=>by rw[e] at R;exact absurd R oM);have s1:=u.beside (Z:=[p]) (fun x J=>by rw[zE.1 J];exact Q) oL;have K:InUse M1 p:=s1.has p oL;obtain⟨q,M2,e2,A,O,af,_⟩:=qhn (D:=D) u.wf u.over h1 K (fun e=>by rw[e] at z;simp at z;omega);have C:o≠p:=fun e=>by rcases u.new o oL with h|h;cases h;exact h (e▸Q)
 have E:InUse M1 o:=u.has o oL;have s2:=A.beside (Z:=[o]) (fun x J=>by rw[zE.1 J];exact E) (oP C);refine⟨q,o,M2,?_,I,(s1.perm (.refl _) (List.Perm.swap _ _ _)).trans (s2.perm (.refl _) (List.Perm.swap _ _ _)),O,?_,oJ⟩;unfold splitN;rw[if_pos hs,e1];dsimp only;rw[if_neg (fun h=>h rfl),e2];rw[(A.rest o E (oP C)).1];exact G
theorem qv8{val:Key}{i:Nat}(h:(keysP L)[i]?=some key):(⟨(lfOf L).leaf,keysP L,(lfOf L).vals.set i val,(lfOf L).kids⟩:NodeM)=lfOf (L.set i (key,val)):=by
 unfold lfOf;rw[map_set,map_set];have:(L.map (·.1)).set i key=L.map (·.1):=by obtain⟨hi,u⟩:=zP.1 h;rw[<- u];exact set_getElem_self hi
 rw[this]
theorem qvy{val:Key}{i:Nat}:(⟨(lfOf L).leaf,insAt (keysP L) i key,insAt (lfOf L).vals i val,(lfOf L).kids⟩:NodeM)=lfOf (L.take i++[(key,val)]++L.drop i):=by unfold lfOf insAt;simp only[xJ,xL,xM,xK,map_nil]
theorem qs8{mid:Nat}(h:mid<L.length):halvesN (lfOf L) mid=(lfOf (L.take mid),lfOf (L.drop mid),L[mid].1):=by unfold halvesN;rw[if_pos (show (lfOf L).leaf=true from rfl)];unfold lfOf;simp only[xL,xM,Prod.mk.injEq,true_and];rw[yQ,zQ,zA h];rfl
theorem qja:sizeN (lfOf L) k v=(L.length,(capsV k v).1):=by unfold sizeN;rw[if_pos (show (lfOf L).leaf=true from rfl)];show ((L.map _).length,_)=_;rw[zK]
theorem PrsOk.sub{L':Prs}(h:PrsOk k v L)(u:∀x∈L',x∈L):PrsOk k v L':=fun x y=>h x (u x y)
theorem SortP.take{L:Prs}(h:SortP L)(n:Nat):SortP (L.take n):=by unfold SortP keysP;rw[xL];exact Rising.take h n
theorem SortP.drop{L:Prs}(h:SortP L)(n:Nat):SortP (L.drop n):=by unfold SortP keysP;rw[xM];exact Rising.drop h n
theorem qeO(h:NodeOk (lfOf L) k v)(u:pagerReadM D M q=(3,bodyN (lfOf L),0)):Has D M k v 0 ⟨q,L.length,L,[q]⟩:=⟨rfl,rfl,h,u⟩
structure PutOk (D:DiskM) (M:PgM) (k v:Nat) (h:Nat) (s:Seg) (key val:Key) (g:Grown) (M':PgM):Prop where
 fresh:g.fresh=decide (key∉keysP s.prs)
 free:M.free.length<=M'.free.length+2*(h+1)
 res:(g.other=0/\∃ n P,Has D M' k v h ⟨g.page,n,insP key val s.prs,P⟩/\Step D M M' s.pages P/\s.size<=n)\/
  (g.other≠0/\∃ n1 L1 P1 n2 L2 P2,Has D M' k v h ⟨g.page,n1,L1,P1⟩/\Has D M' k v h ⟨g.other,n2,L2,P2⟩/\L1++L2=insP key val s.prs/\(∀ x∈L1,KLt x.1 g.key)/\(∀ y∈L2,KLe g.key y.1)/\g.key.length=k/\IsB g.key/\minOf k v h<=n1/\minOf k v h<=n2/\Step D M M' s.pages (P1++P2))
structure CapsOk (k v:Nat):Prop where
 leaf:2<=(capsV k v).1
 inner:4<=(capsV k v).2
theorem qpl{L':Prs}{val:Key}{fresh:Bool}(hc:CapsOk k v)(V:M.Wf)(ho:M.over=false)(hp:InUse M p)(Q:2<=M.free.length)(J:PrsOk k v L')(K:SortP L')(h1:1<=L'.length)(h2:L'.length<=(capsV k v).1+1)(h3:L.length<=L'.length)(he:L'=insP key val L)(z:fresh=decide (key∉keysP L)): ∃g M',splitN k v M p (lfOf L') fresh=((g,0),M')/\PutOk D M k v 0 ⟨p,L.length,L,[p]⟩ key val g M':=by by_cases hb:L'.length<=(capsV k v).1;have hn:=qgf J K h1 hb;obtain⟨q,M',e,st,hr,hl⟩:=qj8 (D:=D) (fresh:=fresh) V ho hn (by rw[qja];exact hb) hp (fun e=>by rw[e] at Q;exact absurd Q oM);refine⟨_,M',e,z,by show M.free.length<=M'.free.length+2;omega,.inl ⟨rfl,L'.length,[q],?_,st,h3⟩⟩;rw[<- he];exact qeO hn hr;have ae:L'.length=(capsV k v).1+1:=oJ;have ao:=hc.leaf;have h:L'.length / 2<L'.length:=oJ;have R:=qs8 h;have n1:NodeOk (lfOf (L'.take (L'.length / 2))) k v:=qgf (J.sub fun x A=>yU A) (K.take _) (by rw[yK];omega) (by rw[yK];omega);have n2:NodeOk (lfOf (L'.drop (L'.length / 2))) k v:=qgf (J.sub fun x A=>yT A) (K.drop _) (by rw[yB];omega) (by rw[yB];omega);obtain⟨q,o,M',e,U,st,C,E,hl⟩:=qnw (D:=D) (k:=k) (v:=v) (p:=p) (fresh:=fresh) (mid:=L'.length / 2) (n:=lfOf L') V ho (by rw[qja]) (by rw[R];exact n1) (by rw[R];exact n2) (by rw[qja];show L'.length>_;omega) hp Q;rw[R] at e C E;have G:L'=L'.take (L'.length / 2)++L'.drop (L'.length / 2):=(xC _ _).symm;have hd:=zX h;have u:=K;rw[G] at u;have u:=SortP.app.1 u;have I:=J _ (zW h);refine⟨⟨q,fresh,L'[L'.length / 2].1,o⟩,M',e,z,by show M.free.length<=M'.free.length+2;omega,.inr ⟨U,(L'.take (L'.length / 2)).length,_,[q],(L'.drop (L'.length / 2)).length,_,[o],qeO n1 C,qeO n2 E,by rw[<- G];exact he,fun x A=>u.2.2 x A _ (by rw[hd];exact mem_cons_self),fun y O=>?_,I.1,I.2.2.1,?_,?_,st⟩⟩;have h5:=u.2.1;rw[hd] at O h5;rcases zG.1 O with rfl|O;exact qaD;exact qaU (qbr (x:=L'[L'.length / 2].1) (r:=keysP _) h5 y.1 (zY O));rw[yK];show (capsV k v).1 / 2<=_;omega;rw[yB];show (capsV k v).1 / 2<=_;omega
theorem qgZ{es:List Ent}(u:(es.map (·.1)).head?=some [])(I:SepE es):∃A e B,es=A++e::B/\A.length=kidV ((es.map (·.1)).tail) key/\KLe e.1 key/\(∀b∈B,KLt key b.1)/\(es.map (·.2.page)).getD (kidV ((es.map (·.1)).tail) key) 0=e.2.page:=by
 have J:=I.rising;have y:=qi9 ((es.map (·.1)).tail) key;have z:es≠[]:=fun e=>by rw[e] at u;cases u
 have E:0<es.length:=length_pos_iff.2 z;have h:kidV ((es.map (·.1)).tail) key<es.length:=(by rw[length_tail,zK] at y;omega);generalize G:kidV ((es.map (·.1)).tail) key=c at h;have C:es=es.take c++es[c]::es.drop (c+1):=(by rw[<- zX h,xC]);refine⟨es.take c,es[c],es.drop (c+1),C,by rw[yK];omega,?_,fun b K=>?_,?_⟩;cases c with
 | zero=>
  have:es[0].1=[]:=by
   cases es with
   | nil=>cases u
   | cons a r=>simpa using u
  rw[this];exact qez _
 | succ c=>
  refine qrG (l:=(es.map (·.1)).tail) (k:=key) ?_;rw[G];have O:(es.map (·.1)).tail[c]?=some es[c+1].1:=(by rw[List.getElem?_tail,zQ,zA h];rfl);refine yE (i:=c) ?_;rw[xA,iP];exact O
 refine qp8 (l:=(es.map (·.1)).tail) J ?_;rw[G];have:(es.map (·.1)).tail.drop c=(es.drop (c+1)).map (·.1):=(by rw[<- drop_one,xB,xM,Nat.add_comm]);rw[this];exact zY K;rw[yQ,zQ,zA h];rfl
theorem qaH{α:Type}{f:Ent->List α}{A B:List Ent}{e:Ent}:(A++e::B).flatMap f=A.flatMap f++(f e++B.flatMap f):=by rw[yP,yG]
theorem SepE.put{A B:List Ent}{e:Ent}{s:Seg}(h:SepE (A++e::B))(E:KLe e.1 key)(G:∀b∈B,KLt key b.1)(J:∀x∈s.prs,x.1=key\/x∈e.2.prs):SepE (A++(e.1,s)::B):=by have C:=pairwise_append.1 h.pair;have I:=yI.1 C.2.1;refine⟨pairwise_append.2 ⟨C.1,yI.2 ⟨fun b u=>⟨(I.1 b u).1,fun x z=>?_⟩,I.2⟩,fun a K b u=>?_⟩,fun b u x z=>?_⟩;rcases J x z with y|y;rw[y];exact G b u;exact (I.1 b u).2 x y;rcases zG.1 u with rfl|u;exact C.2.2 a K e oL;exact C.2.2 a K b (by simp[u]);rcases zD.1 u with u|u;exact h.low b (by simp[u]) x z;rcases zG.1 u with rfl|u;rcases J x z with y|y;rw[y];exact E;exact h.low e oL x y;exact h.low b (by simp[u]) x z
theorem SepE.cut2{A B:List Ent}{lo:Key}{s s1 s2:Seg}(h:SepE (A++(lo,s)::B))(E:s.prs=s1.prs++s2.prs)(h1:∀x∈s1.prs,KLt x.1 m)(h2:∀y∈s2.prs,KLe m y.1)(G:s1.prs≠[])(I:s2.prs≠[]):SepE (A++(lo,s1)::(m,s2)::B):=by have R:=pairwise_append.1 h.pair;have J:=yI.1 R.2.1;have K:=h.low (lo,s) oL;obtain⟨U,O⟩:=exists_mem_of_ne_nil _ G;obtain⟨V,Q⟩:=exists_mem_of_ne_nil _ I;have hm:KLt lo m:=qgd (K U (by show U∈s.prs;rw[E];exact zH _ O)) (h1 U O);have ab:∀b∈B,KLt m b.1:=fun b u=>qgd (h2 V Q) ((J.1 b u).2 V (by show V∈s.prs;rw[E];exact zI _ Q));refine⟨pairwise_append.2 ⟨R.1,yI.2 ⟨fun b u=>?_,yI.2 ⟨fun b u=>⟨ab b u,fun x z=>(J.1 b u).2 x (by show x∈s.prs;rw[E];exact zI _ z)⟩,J.2⟩⟩,fun a ha b u=>?_⟩,fun b u x z=>?_⟩;rcases zG.1 u with rfl|u;exact⟨hm,fun x z=>h1 x z⟩;exact⟨(J.1 b u).1,fun x z=>(J.1 b u).2 x (by show x∈s.prs;rw[E];exact zH _ z)⟩;have C:=R.2.2 a ha (lo,s) oL;rcases zG.1 u with rfl|u;exact C;rcases zG.1 u with rfl|u;exact⟨qaA C.1 hm,fun x z=>qaA (C.2 x z) hm⟩;exact R.2.2 a ha b (by simp[u]);rcases zD.1 u with u|u;exact h.low b (by simp[u]) x z;rcases zG.1 u with rfl|u;exact K x (by show x∈s.prs;rw[E];exact zH _ z);rcases zG.1 u with rfl|u;exact h2 x z;exact h.low b (by simp[u]) x z
theorem qi6{es:List Ent}:sizeN (inOf es) k v=(es.length,(capsV k v).2):=by unfold sizeN;rw[if_neg (show ¬(inOf es).leaf=true from fun e=>nomatch e)];show ((es.map _).length,_)=_;rw[zK]
def relow:List Ent->List Ent
 | []=>[]
 | e::r=>([],e.2)::r
theorem quq(es:List Ent):inOf (relow es)=inOf es:=by cases es<;>rfl
theorem qsW{es:List Ent}{mid:Nat}(z:1<=mid)(h:mid<es.length):halvesN (inOf es) mid=(inOf (es.take mid),inOf (relow (es.drop mid)),es[mid].1):=by
 unfold halvesN;rw[if_neg (show ¬(inOf es).leaf=true from fun e=>nomatch e),quq];unfold inOf;have e1:(es.map (·.1)).tail.take (mid-1)=((es.take mid).map (·.1)).tail:=by rw[<- drop_one,<- drop_one,xL,drop_take]
 have u:(es.map (·.1)).tail.drop mid=((es.drop mid).map (·.1)).tail:=(by rw[<- drop_one,<- drop_one,xM,xB,xB,Nat.add_comm]);have y:(es.map (·.1)).tail.getD (mid-1) []=es[mid].1:=(by rw[yQ,List.getElem?_tail,zQ,show mid-1+1=mid by omega,zA h];rfl);dsimp only;rw[e1,u,y];simp only[xL,xM]
theorem SepE.take{es:List Ent}(h:SepE es)(n:Nat):SepE (es.take n):=⟨List.Pairwise.sublist (take_sublist n es) h.pair,fun e u=>h.low e (yU u)⟩
theorem SepE.drop{es:List Ent}(h:SepE es)(n:Nat):SepE (es.drop n):=⟨List.Pairwise.sublist (drop_sublist n es) h.pair,fun e u=>h.low e (yT u)⟩
theorem SepE.relow{es:List Ent}(h:SepE es):SepE (relow es):=by
 cases es with
 | nil=>exact h
 | cons e r=>
  have z:=yI.1 h.pair;refine⟨yI.2 ⟨fun b u=>⟨?_,(z.1 b u).2⟩,z.2⟩,fun b u x C=>?_⟩
  have:=(z.1 b u).1
  cases A:b.1 with
  | nil=>rw[A] at this;exact absurd this qj1
  | cons y l=>show cmpL [] (y::l)<0;simp[cmpL]
  rcases zG.1 u with rfl|u;exact qez _;exact h.low b (zN _ u) x C
theorem qlO{α:Type}{f:Seg->List α}(es:List Ent):(relow es).flatMap (fun e=>f e.2)=es.flatMap fun e=>f e.2:=by cases es<;>rfl
theorem qnp{P:Seg->Prop}{es:List Ent}(h:∀e∈es,P e.2):∀e∈relow es,P e.2:=by
 cases es with
 | nil=>exact h
 | cons a r=>
  intro e u;rcases zG.1 u with rfl|u;exact h a oL;exact h e (zN _ u)
theorem qr0{es:List Ent}(h:es≠[]):((relow es).map (·.1)).head?=some []:=by cases es with|nil=>exact absurd rfl h|cons a r=>rfl
theorem qtu(es:List Ent):(relow es).length=es.length:=by cases es<;>rfl
def KeysOk (k:Nat) (es:List Ent):Prop:=∀e∈es.tail,e.1.length=k/\IsB e.1
theorem KeysOk.tail{es:List Ent}(h:KeysOk k es):∀a∈(es.map (·.1)).tail,a.length=k/\IsB a:=fun a u=>by rw[<- map_tail] at u;obtain⟨e,y,rfl⟩:=mem_map.1 u;exact h e y
theorem KeysOk.of{es:List Ent}(h:NodeOk (inOf es) k v):KeysOk k es:=fun e u=>by have:e.1∈(inOf es).keys:=(by show e.1∈(es.map (·.1)).tail;rw[<- map_tail];exact zY u);exact⟨h.right.1 _ this,h.keys _ this⟩
theorem qa9(u:M.Wf){x:Int}(h:InUse M x):2<=x/\x<4294967296:=by have y:=qdy u h;have z:=u.n4;omega
theorem qcB{es:List Ent}(u:(es.map (·.1)).head?=some [])(y:NodeOk (inOf es) k v)(z:pagerReadM D M q=(4,bodyN (inOf es),0))(A:SepE es)(C:∀e∈es,Has D M k v h e.2/\minOf k v h<=e.2.size): Has D M k v (h+1) ⟨q,es.length,es.flatMap (·.2.prs),q::es.flatMap (·.2.pages)⟩:=⟨es,u,rfl,rfl,rfl,y,z,A,C⟩
theorem qup{A B:List Ent}{e:Ent}{s1 s2:Seg}(I:((A++e::B).map (·.1)).head?=some []){g:Grown}(u:g.page=s1.page)(y:g.other=s2.page)(z:g.key=m)(C:g.other≠0):grownN (inOf (A++e::B)) A.length g=inOf (A++(e.1,s1)::(m,s2)::B):=by
 unfold grownN;rw[if_pos C,u,y,z];unfold inOf insAt;dsimp only;congr 1;cases A with
 | nil=>simp
 | cons a A=>
  have:(A.map (·.1)++e.1::B.map (·.1)).take (A.length+1)=A.map (·.1)++[e.1]:=(by rw[show A.map (·.1)++e.1::B.map (·.1)=(A.map (·.1)++[e.1])++B.map (·.1) by simp];exact take_left' oL);have E:(A.map (·.1)++e.1::B.map (·.1)).drop (A.length+1)=B.map (·.1):=(by rw[show A.map (·.1)++e.1::B.map (·.1)=(A.map (·.1)++[e.1])++B.map (·.1) by simp];exact drop_left' oL);simp only[xJ,xK,xH,tail_cons,yH];rw[this,E];simp
 have G:(A.map (·.2.page)).length=A.length:=zK _;have h:(A.map (·.2.page)++e.2.page::B.map (·.2.page)).set A.length s1.page=(A.map (·.2.page)++[s1.page])++B.map (·.2.page):=(by rw[set_append_right _ _ oJ,G,Nat.sub_self];simp);simp only[xJ,xK];rw[h,take_left' oL,drop_left' oL];simp
theorem qsV{A B:List Ent}{e:Ent}{s1:Seg}{g:Grown}(u:g.page=s1.page)(y:g.other=0):grownN (inOf (A++e::B)) A.length g=inOf (A++(e.1,s1)::B):=by unfold grownN;rw[if_neg (fun h=>h y),u];unfold inOf;dsimp only;have z:(A.map (·.2.page)).length=A.length:=zK _;congr 1;simp;simp only[xJ,xK];rw[set_append_right _ _ oJ,z,Nat.sub_self];rfl
theorem qhd{α:Type}{a x b z:List α}:(a++(x++b)).Perm ((a++b)++x):=by rw[zV];exact List.Perm.append_left a perm_append_comm
theorem Step.node{M1 C:PgM}{a x y:List Int}{Q:List Int}(E:∀z∈p::(a++(x++b)),InUse M z)(G:(p::(a++(x++b))).Nodup)(I:Step D M M1 x y)(J:Step D M1 C [p] Q):Step D M C (p::(a++(x++b))) (Q++(a++(y++b))):=by have h:(p::(a++(x++b))).Perm ((p::(a++b))++x):=(by rw[xH];exact (qhd (z:=a)).cons p);have s1:=(I.beside (Z:=p::(a++b)) (fun z A=>E z (h.mem_iff.2 (zH _ A))) (h.nodup_iff.1 G));have u:((p::(a++b))++y).Perm ((a++(y++b))++[p]):=(by refine List.Perm.trans ?_ perm_append_comm;rw[xH];exact ((qhd (z:=a)).symm).cons p);have K:=J.beside (Z:=a++(y++b)) (fun z A=>s1.has z (u.mem_iff.2 (zH _ A))) (u.nodup_iff.1 s1.nodup);exact ((s1.perm (h.symm) u).trans K).perm (.refl _) perm_append_comm
theorem qjO{es:List Ent}{fresh:Bool}(J:M.Wf)(C:M.over=false)(K:(es.map (·.1)).head?=some [])(E:NodeOk (inOf es) k v)(u:es.length<=(capsV k v).2)(O:SepE es)(z:∀e∈es,Has D M k v h e.2/\minOf k v h<=e.2.size)(Q:InUse M p)(A:p∉es.flatMap (·.2.pages))(G:1<=M.free.length:=by omega): ∃q M',splitN k v M p (inOf es) fresh=((⟨q,fresh,[],0⟩,0),M')/\Step D M M' [p] [q]/\Has D M' k v (h+1) ⟨q,es.length,es.flatMap (·.2.prs),q::es.flatMap (·.2.pages)⟩/\M.free.length<=M'.free.length+1:=by obtain⟨q,M',e,st,R,U⟩:=qj8 (D:=D) (fresh:=fresh) J C E (by rw[qi6];exact u) Q (fun e=>by rw[e] at G;exact absurd G oM);refine⟨q,M',e,st,qcB K E R O fun b y=>⟨(z b y).1.frame fun x I=>?_,(z b y).2⟩,U⟩;exact (st.rest x ((z b y).1.used C x I) (fun V=>A (yJ.2 ⟨b,y,by rw[<- zE.1 V];exact I⟩))).1
theorem qdp{es:List Ent}(z:M.Wf)(A:M.over=false)(C:KeysOk k es)(E:SepE es)(G:2<=es.length)(I:es.length<=(capsV k v).2)(u:∀e∈es,Has D M k v h e.2):NodeOk (inOf es) k v:=
 qvn C.tail E.rising G I fun e y=>qa9 z ((u e y).used A e.2.page (u e y).mem)
theorem qr1{es:List Ent}(h:KeysOk k es):KeysOk k (relow es):=by cases es<;>exact h
theorem qsX{es:List Ent}{fresh:Bool}(hc:CapsOk k v)(hW:M.Wf)(ho:M.over=false)(h0:(es.map (·.1)).head?=some [])(hk:KeysOk k es)(aw:es.length=(capsV k v).2+1)(hs:SepE es)(I:∀e∈es,Has D M k v h e.2/\minOf k v h<=e.2.size)(hu:InUse M p)(aj:p∉es.flatMap (·.2.pages))(hf:2<=M.free.length:=by omega): ∃q o m M' J L1 P1 K L2 P2,splitN k v M p (inOf es) fresh=((⟨q,fresh,m,o⟩,0),M')/\o≠0/\Step D M M' [p] [q,o]/\Has D M' k v (h+1) ⟨q,J,L1,q::P1⟩/\Has D M' k v (h+1) ⟨o,K,L2,o::P2⟩/\L1++L2=es.flatMap (·.2.prs)/\P1++P2=es.flatMap (·.2.pages)/\(∀x∈L1,KLt x.1 m)/\(∀y∈L2,KLe m y.1)/\m.length=k/\IsB m/\minOf k v (h+1)<=J/\minOf k v (h+1)<=K/\M.free.length<=M'.free.length+2:=by
 have aE:=hc.inner;have z:es.length / 2<es.length:=oJ;have hh:=qsW (es:=es) (mid:=es.length / 2) oJ z;have lt:(es.take (es.length / 2)).length=es.length / 2:=(by rw[yK];omega);have ld:(relow (es.drop (es.length / 2))).length=es.length-es.length / 2:=(by rw[qtu,yB]);have A:∀e∈es.take (es.length / 2),Has D M k v h e.2/\minOf k v h<=e.2.size:=fun e u=>I e (yU u);have an:∀e∈relow (es.drop (es.length / 2)),Has D M k v h e.2/\minOf k v h<=e.2.size:=qnp (P:=fun s=>Has D M k v h s/\minOf k v h<=s.size) fun e u=>I e (yT u);have O:=hs.take (es.length / 2);have Q:=(hs.drop (es.length / 2)).relow;have ao:KeysOk k (es.take (es.length / 2)):=fun e u=>by refine hk e ?_;rw[<- drop_one,drop_take] at u;rw[<- drop_one];exact yU u
 have ap:KeysOk k (relow (es.drop (es.length / 2))):=qr1 fun e u=>by refine hk e ?_;rw[<- drop_one,xB,show es.length / 2+1=1+es.length / 2 by omega,<- xB] at u;rw[<- drop_one];exact yT u
 have J:=qdp hW ho ao O oJ oJ fun e u=>(A e u).1;have K:=qdp hW ho ap Q oJ oJ fun e u=>(an e u).1;have C:es.take (es.length / 2)++es.drop (es.length / 2)=es:=xC _ _;have hd:=zX z;obtain⟨q,o,M',e,ar,st,R,U,hl⟩:=qnw (D:=D) (k:=k) (v:=v) (p:=p) (fresh:=fresh) (mid:=es.length / 2) (n:=inOf es) hW ho (by rw[qi6]) (by rw[hh];exact J) (by rw[hh];exact K) (by rw[qi6];show es.length>_;omega) hu hf;rw[hh] at e R U;have fr:∀b∈es,∀x∈b.2.pages,pagerReadM D M' x=pagerReadM D M x:=fun b E x G=>
  (st.rest x ((I b E).1.used ho x G) (fun V=>aj (yJ.2 ⟨b,E,by rw[<- zE.1 V];exact G⟩))).1
 have f1:∀e∈es.take (es.length / 2),Has D M' k v h e.2/\minOf k v h<=e.2.size:=fun e u=>⟨(A e u).1.frame (fr e (yU u)),(A e u).2⟩;have f2:∀e∈relow (es.drop (es.length / 2)),Has D M' k v h e.2/\minOf k v h<=e.2.size:=qnp (P:=fun s=>Has D M' k v h s/\minOf k v h<=s.size) fun e u=>⟨(I e (yT u)).1.frame (fr e (yT u)),(I e (yT u)).2⟩;have au:((es.take (es.length / 2)).map (·.1)).head?=some []:=by
  rw[xL];cases aa:es.map (·.1) with
  | nil=>rw[aa] at h0;cases h0
  | cons a r=>
   rw[aa] at h0;rw[show es.length / 2=(es.length / 2-1)+1 by omega,take_succ_cons];exact h0
 have av:((relow (es.drop (es.length / 2))).map (·.1)).head?=some []:=qr0 (by rw[hd];exact cons_ne_nil _ _);have ab:=hs;rw[<- C,hd] at ab;have V:=ab.mid;have ac:=hk es[es.length / 2] (by rw[<- drop_one];exact yE (i:=es.length / 2-1) (by rw[yZ,show 1+(es.length / 2-1)=es.length / 2 by omega,zA z]));have ep:(relow (es.drop (es.length / 2))).flatMap (·.2.prs)=(es.drop (es.length / 2)).flatMap (·.2.prs):=qlO (f:=Seg.prs) _;have eg:(relow (es.drop (es.length / 2))).flatMap (·.2.pages)=(es.drop (es.length / 2)).flatMap (·.2.pages):=qlO (f:=Seg.pages) _;have H2:=qcB av K U Q f2;refine⟨q,o,es[es.length / 2].1,M',_,_,_,_,_,_,e,ar,st,qcB au J R O f1,H2,?_,?_,fun x G=>?_,fun y hy=>?_,ac.1,ac.2,?_,?_,hl⟩;rw[ep,<- yP,C];rw[eg,<- yP,C];obtain⟨a,ha,G⟩:=yJ.1 G;exact V.1 a ha x G;rw[ep,hd] at hy;obtain⟨b,E,hy⟩:=yJ.1 hy;rcases zG.1 E with rfl|E;exact hs.low _ (zW z) y hy;exact qcD (qaU (V.2 b E).1) ((V.2 b E).2.2 y hy);show (capsV k v).2 / 2<=_;omega;show (capsV k v).2 / 2<=_;omega
theorem qku{A B:List Ent}{e:Ent}{s:Seg}(h:KeysOk k (A++e::B)):KeysOk k (A++(e.1,s)::B):=by
 cases A with
 | nil=>exact h
 | cons a A=>
  intro b u;rcases zD.1 (show b∈A++(e.1,s)::B from u) with u|u;exact h b (show b∈A++e::B from zH _ u);rcases zG.1 u with rfl|u;exact h e (show e∈A++e::B from zI _ mem_cons_self);exact h b (show b∈A++e::B from zI _ (zN _ u))
theorem qoT{A B:List Ent}{e:Ent}{s1 s2:Seg}(h:KeysOk k (A++e::B))(C:m.length=k/\IsB m):KeysOk k (A++(e.1,s1)::(m,s2)::B):=by
 have z:∀b∈(m,s2)::B,(∀c∈B,c.1.length=k/\IsB c.1)->b.1.length=k/\IsB b.1:=fun b u E=>(zG.1 u).elim (fun e=>by rw[e];exact C) (E b);cases A with
 | nil=>exact fun b u=>z b u fun c y=>h c y
 | cons a A=>
  intro b u;rcases zD.1 (show b∈A++(e.1,s1)::(m,s2)::B from u) with u|u;exact h b (show b∈A++e::B from zH _ u);rcases zG.1 u with rfl|u;exact h e (show e∈A++e::B from zI _ mem_cons_self);exact z b u fun c y=>h c (show c∈A++e::B from zI _ (zN _ y))
theorem treePut(hc:CapsOk k v){key val:Key}(hk:key.length=k/\IsB key)(hv:val.length=v/\IsB val):∀(h:Nat) (M:PgM) (s:Seg),Has D M k v h s->M.Wf->M.over=false->s.pages.Nodup->s.size<=1000->2*(h+1)<=M.free.length-> ∃g M',putN D k v key val (h+1) M s.page=((g,0),M')/\PutOk D M k v h s key val g M'
 | 0,M,⟨p,n,L,P⟩,⟨h1,h2,h3,h4⟩,hW,ho,aP,_,hf=>by
  dsimp only at h1 h2 h3 h4;subst h1 h2;have hp:InUse M p:=qiF ho (by rw[h4]);have hl:loadN D M k v p=(lfOf L,0):=h3.load h4;have hs:SortP L:=h3.right.2.2.1;have hL:PrsOk k v L:=fun x C=>⟨h3.right.1 x.1 (zY C),h3.right.2.1 x.2 (zY C),h3.keys x.1 (zY C),h3.vals x.2 (zY C)⟩;have G:=h3.right.2.2.2;rw[if_pos (show (lfOf L).leaf=true from rfl)] at G;have aZ:1<=L.length/\L.length<=(capsV k v).1:=by have e:(lfOf L).keys.length=L.length:=zK _;rw[e] at G;exact⟨G.2.1,G.2.2.1⟩
  have aQ:(lfOf L).keys=keysP L:=rfl;have ag:=qrA (v:=val) (k:=key) hs;have aw:PrsOk k v (insP key val L):=fun x C=>(qeR C).elim (fun e=>by rw[e];exact⟨hk.1,hv.1,hk.2,hv.2⟩) (hL x);have ax:=qmZ (k:=key) (v:=val) hs;unfold putN;rw[hl];dsimp only;rw[if_neg (fun h=>h rfl),if_pos (show (lfOf L).leaf=true from rfl),aQ];by_cases J:(keysP L)[placeV (keysP L) key]?=some key;rw[if_pos J,qv8 J];rw[if_pos J] at ag;have ah:=qb5 (v:=val) hs ((qb8 hs).1 J);rw[ag] at aw ax ah;exact qpl hc hW ho hp oJ aw ax oJ oJ oJ ag.symm (by rw[zU (fun h=>h ((qb8 hs).1 J))]);rw[if_neg J,qvy];rw[if_neg J] at ag;have a0:key∉keysP L:=fun h=>J ((qb8 hs).2 h);have ah:=qb4 (v:=val) a0;rw[ag] at aw ax ah;exact qpl hc hW ho hp oJ aw ax oJ oJ oJ ag.symm (by rw[zZ a0])
 | h+1,M,⟨p,n,L,P⟩,⟨I,h0,h1,h2,h3,h4,h5,h6,h7⟩,hW,ho,aP,h8,hf=>by
  dsimp only at h1 h2 h3 h5 aP h8;subst h1 h2 h3;have hp:InUse M p:=qiF ho (by rw[h5]);have hl:loadN D M k v p=(inOf I,0):=h4.load h5;have bM:=h4.right.innerTwo;obtain⟨A,e,B,E,hA,aR,aS,aT⟩:=qgZ (key:=key) h0 h6;have aU:(inOf I).kids.getD (kidV (inOf I).keys key) 0=e.2.page:=aT;have bv:kidV (inOf I).keys key=A.length:=hA.symm;have bw:e∈I:=(by rw[E];simp);obtain⟨az,al⟩:=h7 e bw;have V:∀z∈p::I.flatMap (·.2.pages),InUse M z:=fun z hz=>(zG.1 hz).elim (fun e=>by rw[e];exact hp) fun hz=>by obtain⟨b,u,hz⟩:=yJ.1 hz;exact (h7 b u).1.used ho z hz
  have ac:I.flatMap (·.2.pages)=A.flatMap (·.2.pages)++(e.2.pages++B.flatMap (·.2.pages)):=(by rw[E,qaH]);have aa:I.flatMap (·.2.prs)=A.flatMap (·.2.prs)++(e.2.prs++B.flatMap (·.2.prs)):=(by rw[E,qaH]);have K:=aP;have ae:=V;rw[ac] at K ae;have bx:e.2.size<=1000:=by
   have:=qdl (k:=k) (v:=v)
   cases h with
   | zero=>
    have h9:=az.2.2.1.right.2.2.2;rw[if_pos (show (lfOf e.2.prs).leaf=true from rfl)] at h9;have bz:=h9.2.2.1;have e1:(lfOf e.2.prs).keys.length=e.2.prs.length:=zK _;rw[e1] at bz;rw[az.2.1];omega
   | succ h=>
    obtain⟨bT,_,g1,_,_,g4,_⟩:=az
    have:=g4.right.innerTwo
    rw[g1];omega
  have a1:e.2.pages.Nodup:=(yL.1 (yL.1 (nodup_cons.1 K).2).2.1).1;obtain⟨g,M1,eg,ok⟩:=treePut hc hk hv h M e.2 az hW ho a1 bx oJ;have bB:=ok.free;have af:=h6;rw[E] at af;have am:=af.mid;have a2:∀x∈A.flatMap (·.2.prs),KLt x.1 key:=fun x C=>by obtain⟨a,ha,C⟩:=yJ.1 C;exact qbi (am.1 a ha x C) aR
  have a3:∀x∈B.flatMap (·.2.prs),KLt key x.1:=fun x C=>by obtain⟨b,u,C⟩:=yJ.1 C;exact qbi (aS b u) ((am.2 b u).2.2 x C)
  have aJ:insP key val (I.flatMap (·.2.prs))=A.flatMap (·.2.prs)++(insP key val e.2.prs++B.flatMap (·.2.prs)):=(by rw[aa,qc3 a2,qjP a3]);have aA:g.fresh=decide (key∉keysP (I.flatMap (·.2.prs))):=by rw[ok.fresh];refine decide_eq_decide.2 (not_congr ⟨fun J=>?_,fun J=>?_⟩);obtain⟨x,C,rfl⟩:=mem_map.1 J;exact zY (by rw[aa];exact zI _ (zH _ C));obtain⟨x,C,rfl⟩:=mem_map.1 J;rw[aa] at C;rcases zD.1 C with C|C;exact absurd (a2 x C) qaD;rcases zD.1 C with C|C;exact zY C;exact absurd (a3 x C) qaD
  have an:p∉e.2.pages:=fun J=>(nodup_cons.1 K).1 (zI _ (zH _ J));have a4:∀b,b∈A\/b∈B->∀z∈b.2.pages,z∉e.2.pages:=fun b u z hz J=>by have h9:=yL.1 (nodup_cons.1 K).2;rcases u with u|u;exact h9.2.2 z (yJ.2 ⟨b,u,hz⟩) z (zH _ J) rfl;exact (yL.1 h9.2.1).2.2 z J z (yJ.2 ⟨b,u,hz⟩) rfl
  have ab:=KeysOk.of h4;have a5:∀ {MM:PgM} {Q:List Int},Step D M MM e.2.pages Q->p∉A.flatMap (·.2.pages)++(Q++B.flatMap (·.2.pages)):=fun st J=>by have h9:=(nodup_cons.1 K).1;rcases zD.1 J with J|J;exact h9 (zH _ J);rcases zD.1 J with J|J;exact (st.rest p hp an).2.2 J;exact h9 (zI _ (zI _ J))
  unfold putN;rw[hl];dsimp only;rw[if_neg (fun h=>h rfl),if_neg (show ¬(inOf I).leaf=true from fun e=>nomatch e),aU,eg];dsimp only;rw[if_neg (fun h=>h rfl),bv];have U:∀ {MM:PgM},(∀x∈p::I.flatMap (·.2.pages),x∉e.2.pages->pagerReadM D MM x=pagerReadM D M x)->∀b,b∈A\/b∈B->Has D MM k v h b.2/\minOf k v h<=b.2.size:=fun hr b u=>by
   have aV:b∈I:=by rw[E];rcases u with u|u<;>simp[u]
   exact⟨(h7 b aV).1.frame fun x C=>hr x (zN _ (yJ.2 ⟨b,aV,C⟩)) (a4 b u x C),(h7 b aV).2⟩
  rcases ok.res with ⟨aB,n',P',aK,st,aL⟩|⟨aB,n1,L1,P1,n2,L2,P2,a6,a7,aM,a8,a9,a',ba,bC,bD,st⟩;have O:((A++(e.1,(⟨g.page,n',insP key val e.2.prs,P'⟩:Seg))::B).map (·.1)).head?=some []:=by rw[E] at h0;rw[xJ,xK] at h0⊢;exact h0
  have R:SepE (A++(e.1,(⟨g.page,n',insP key val e.2.prs,P'⟩:Seg))::B):=af.put aR aS fun x C=>(qeR C).imp (fun e=>by rw[e]) id;have y:∀x∈p::I.flatMap (·.2.pages),x∉e.2.pages->pagerReadM D M1 x=pagerReadM D M x:=fun x C aW=>(st.rest x (V x C) aW).1;have G:(A++(e.1,(⟨g.page,n',insP key val e.2.prs,P'⟩:Seg))::B).length=I.length:=(by rw[E];simp);have ap:(A++(e.1,(⟨g.page,n',insP key val e.2.prs,P'⟩:Seg))::B).flatMap (·.2.prs)=insP key val (I.flatMap (·.2.prs)):=(by rw[qaH,aJ]);have ad:(A++(e.1,(⟨g.page,n',insP key val e.2.prs,P'⟩:Seg))::B).flatMap (·.2.pages)=A.flatMap (·.2.pages)++(P'++B.flatMap (·.2.pages)):=(by rw[qaH]);by_cases hsame:g.page=e.2.page/\g.other=0;rw[if_pos hsame];have bb:inOf (A++(e.1,(⟨g.page,n',insP key val e.2.prs,P'⟩:Seg))::B)=inOf I:=(by rw[E];unfold inOf;simp[hsame.1]);have bE:pagerReadM D M1 p=(4,bodyN (inOf (A++(e.1,(⟨g.page,n',insP key val e.2.prs,P'⟩:Seg))::B)),0):=(by rw[y p oL an,h5,bb]);refine⟨_,M1,rfl,aA,oJ,.inl ⟨rfl,I.length,p::(A.flatMap (·.2.pages)++(P'++B.flatMap (·.2.pages))),?_,?_,zM _⟩⟩
  have:=qcB O (by rw[bb];exact h4) bE R (h:=h) fun b u=>?_
  rw[G,ap,ad] at this;exact this;rcases zD.1 u with u|u;exact U y b (.inl u);rcases zG.1 u with rfl|u;exact⟨aK,zL al aL⟩;exact U y b (.inr u);show Step D M M1 (p::I.flatMap (·.2.pages)) _;rw[ac];have h9:=Step.node (p:=p) ae K st (Step.refl (D:=D) st.wf st.over (P:=[p]) (fun x C=>by rw[zE.1 C];exact (st.rest p hp an).2.1) oL);exact h9;rw[if_neg hsame,E,qsV (s1:=⟨g.page,n',insP key val e.2.prs,P'⟩) rfl aB];have ai:∀b∈A++(e.1,(⟨g.page,n',insP key val e.2.prs,P'⟩:Seg))::B,Has D M1 k v h b.2/\minOf k v h<=b.2.size:=fun b u=>by rcases zD.1 u with u|u;exact U y b (.inl u);rcases zG.1 u with rfl|u;exact⟨aK,zL al aL⟩;exact U y b (.inr u)
  have aE:KeysOk k (A++(e.1,(⟨g.page,n',insP key val e.2.prs,P'⟩:Seg))::B):=qku (by rw[<- E];exact ab);have hN:=qdp st.wf st.over aE R oJ oJ fun b u=>(ai b u).1;obtain⟨q,M2,e2,aq,H2,ah⟩:=qjO (fresh:=g.fresh) st.wf st.over O hN oJ R ai (st.rest p hp an).2.1 (by rw[ad];exact a5 st);refine⟨_,M2,e2,by rw[<- E];exact aA,oJ,.inl ⟨rfl,I.length,q::(A.flatMap (·.2.pages)++(P'++B.flatMap (·.2.pages))),?_,?_,Nat.le_of_eq (by rw[E])⟩⟩;rw[G,ap,ad] at H2;rw[<- E];exact H2;show Step D M M2 (p::(A++e::B).flatMap (·.2.pages)) _;rw[qaH];exact Step.node (p:=p) ae K st aq;have bf:L1≠[]:=a6.ne;have bg:L2≠[]:=a7.ne;rw[if_neg (fun h=>aB h.2)];have R:SepE (A++(e.1,(⟨g.page,n1,L1,P1⟩:Seg))::(g.key,⟨g.other,n2,L2,P2⟩)::B):=
   (af.put (s:=⟨0,0,insP key val e.2.prs,[]⟩) aR aS fun x C=>(qeR C).imp (fun e=>by rw[e]) id).cut2 aM.symm a8 a9 bf bg
  have O:((A++(e.1,(⟨g.page,n1,L1,P1⟩:Seg))::(g.key,⟨g.other,n2,L2,P2⟩)::B).map (·.1)).head?=some []:=by
   rw[E] at h0;rw[xJ,xK] at h0⊢;cases A with
   | nil=>exact h0
   | cons a A=>exact h0
  have y:∀x∈p::I.flatMap (·.2.pages),x∉e.2.pages->pagerReadM D M1 x=pagerReadM D M x:=fun x C aW=>(st.rest x (V x C) aW).1;have G:(A++(e.1,(⟨g.page,n1,L1,P1⟩:Seg))::(g.key,⟨g.other,n2,L2,P2⟩)::B).length=I.length+1:=(by rw[E];simp;omega);have ap:(A++(e.1,(⟨g.page,n1,L1,P1⟩:Seg))::(g.key,⟨g.other,n2,L2,P2⟩)::B).flatMap (·.2.prs)=insP key val (I.flatMap (·.2.prs)):=(by rw[qaH,yG,aJ,<- aM,zV]);have ad:(A++(e.1,(⟨g.page,n1,L1,P1⟩:Seg))::(g.key,⟨g.other,n2,L2,P2⟩)::B).flatMap (·.2.pages)=A.flatMap (·.2.pages)++((P1++P2)++B.flatMap (·.2.pages)):=(by rw[qaH,yG,zV P1]);have ai:∀b∈A++(e.1,(⟨g.page,n1,L1,P1⟩:Seg))::(g.key,⟨g.other,n2,L2,P2⟩)::B,Has D M1 k v h b.2/\minOf k v h<=b.2.size:=fun b u=>by rcases zD.1 u with u|u;exact U y b (.inl u);rcases zG.1 u with rfl|u;exact⟨a6,bC⟩;rcases zG.1 u with rfl|u;exact⟨a7,bD⟩;exact U y b (.inr u)
  have aE:KeysOk k (A++(e.1,(⟨g.page,n1,L1,P1⟩:Seg))::(g.key,⟨g.other,n2,L2,P2⟩)::B):=qoT (by rw[<- E];exact ab) ⟨a',ba⟩;have bh:p∉(A++(e.1,(⟨g.page,n1,L1,P1⟩:Seg))::(g.key,⟨g.other,n2,L2,P2⟩)::B).flatMap (·.2.pages):=(by rw[ad];exact a5 st);have bi:=(st.rest p hp an).2.1;have bG:grownN (inOf I) A.length g=inOf (A++(e.1,(⟨g.page,n1,L1,P1⟩:Seg))::(g.key,⟨g.other,n2,L2,P2⟩)::B):=(by rw[E];exact qup (by rw[<- E];exact h0) rfl rfl rfl aB);rw[bG];have bj:∀ {M2:PgM} {Q:List Int},Step D M1 M2 [p] Q->Step D M M2 (p::I.flatMap (·.2.pages)) (Q++(A.flatMap (·.2.pages)++((P1++P2)++B.flatMap (·.2.pages)))):=fun h2=>by rw[ac];exact Step.node (p:=p) ae K st h2
  by_cases u:I.length+1<=(capsV k v).2;have hN:=qdp st.wf st.over aE R oJ oJ fun b u=>(ai b u).1;obtain⟨q,M2,e2,aq,H2,ah⟩:=qjO (fresh:=g.fresh) st.wf st.over O hN oJ R ai bi bh;rw[G,ap,ad] at H2;exact⟨_,M2,e2,aA,oJ,.inl ⟨rfl,_,_,H2,bj aq,by show I.length<=I.length+1;omega⟩⟩;obtain⟨q,o,m,M2,n3,L3,P3,n4,L4,P4,e2,bH,aq,H3,H4,hL,hP,bI,aZ,bk,bl,bJ,bK,ah⟩:=qsX (fresh:=g.fresh) hc st.wf st.over O aE oJ R ai bi bh;rw[ap] at hL;rw[ad] at hP;refine⟨_,M2,e2,aA,oJ,.inr ⟨bH,_,_,_,_,_,_,H3,H4,hL,bI,aZ,bk,bl,bJ,bK,?_⟩⟩
  have:=bj aq
  rw[<- hP] at this;refine this.perm (.refl _) ?_;show (q::o::(P3++P4)).Perm (q::(P3++o::P4));exact (perm_middle.symm).cons q
end
end
section
def delAt {α:Type} (l:List α) (i:Nat):List α:=l.take i++l.drop (i+1)
def lowN (n:NodeM) (k v:Nat):Prop:=(sizeN n k v).1<(sizeN n k v).2 / 2
def spareN (n:NodeM) (k v:Nat):Prop:=(sizeN n k v).1>(sizeN n k v).2 / 2
def giveN (l r:NodeM) (key:Key):NodeM×NodeM×Key:=
 if l.leaf then
  ({ l with keys:=l.keys.take (l.keys.length-1),vals:=l.vals.take (l.keys.length-1) },
  { r with keys:=l.keys.getD (l.keys.length-1) []::r.keys,vals:=l.vals.getD (l.keys.length-1) []::r.vals },l.keys.getD (l.keys.length-1) [])
 else
  ({ l with keys:=l.keys.take (l.keys.length-1),kids:=l.kids.take (l.keys.length-1+1) },
  { r with keys:=key::r.keys,kids:=l.kids.getD (l.keys.length-1+1) 0::r.kids },l.keys.getD (l.keys.length-1) [])
def takeN (l r:NodeM) (key:Key):NodeM×NodeM×Key:=
 if l.leaf then
  ({ l with keys:=l.keys++[r.keys.getD 0 []],vals:=l.vals++[r.vals.getD 0 []] },{ r with keys:=r.keys.drop 1,vals:=r.vals.drop 1 },(r.keys.drop 1).getD 0 [])
 else
  ({ l with keys:=l.keys++[key],kids:=l.kids++[r.kids.getD 0 0] },{ r with keys:=r.keys.drop 1,kids:=r.kids.drop 1 },r.keys.getD 0 [])
def joinN (l r:NodeM) (key:Key):NodeM:=⟨l.leaf,(if l.leaf then l.keys else l.keys++[key])++r.keys,l.vals++r.vals,l.kids++r.kids⟩
noncomputable def joinM (k v:Nat) (M:PgM) (n:NodeM) (i:Nat) (l r:NodeM):(NodeM×Int)×PgM:=
 if (storeN k v M (n.kids.getD i 0) (joinN l r (n.keys.getD i []))).1.2≠0 then ((zeroN,(storeN k v M (n.kids.getD i 0) (joinN l r (n.keys.getD i []))).1.2),(storeN k v M (n.kids.getD i 0) (joinN l r (n.keys.getD i []))).2)
 else if (dropV (storeN k v M (n.kids.getD i 0) (joinN l r (n.keys.getD i []))).2 (n.kids.getD (i+1) 0)).1≠0 then ((zeroN,(dropV (storeN k v M (n.kids.getD i 0) (joinN l r (n.keys.getD i []))).2 (n.kids.getD (i+1) 0)).1),(dropV (storeN k v M (n.kids.getD i 0) (joinN l r (n.keys.getD i []))).2 (n.kids.getD (i+1) 0)).2)
 else (({ n with kids:=delAt (n.kids.set i (storeN k v M (n.kids.getD i 0) (joinN l r (n.keys.getD i []))).1.1) (i+1),keys:=delAt n.keys i },0),(dropV (storeN k v M (n.kids.getD i 0) (joinN l r (n.keys.getD i []))).2 (n.kids.getD (i+1) 0)).2)
noncomputable def bothM (k v:Nat) (M:PgM) (n:NodeM) (i:Nat) (r:NodeM×NodeM×Key):(NodeM×Int)×PgM:=
 if (storeN k v M (n.kids.getD i 0) r.1).1.2≠0 then ((zeroN,(storeN k v M (n.kids.getD i 0) r.1).1.2),(storeN k v M (n.kids.getD i 0) r.1).2)
 else (({ n with keys:=n.keys.set i r.2.2,kids:=(n.kids.set i (storeN k v M (n.kids.getD i 0) r.1).1.1).set (i+1) (storeN k v (storeN k v M (n.kids.getD i 0) r.1).2 (n.kids.getD (i+1) 0) r.2.1).1.1 },(storeN k v (storeN k v M (n.kids.getD i 0) r.1).2 (n.kids.getD (i+1) 0) r.2.1).1.2),(storeN k v (storeN k v M (n.kids.getD i 0) r.1).2 (n.kids.getD (i+1) 0) r.2.1).2)
noncomputable def evenM (D:DiskM) (k v:Nat) (M:PgM) (n:NodeM) (side c:Nat) (x:NodeM):(NodeM×Int)×PgM:=
 if (loadN D M k v (n.kids.getD side 0)).2≠0 then ((zeroN,(loadN D M k v (n.kids.getD side 0)).2),M)
 else if side<c then
  if ¬spareN (loadN D M k v (n.kids.getD side 0)).1 k v then joinM k v M n side (loadN D M k v (n.kids.getD side 0)).1 x
  else bothM k v M n side (giveN (loadN D M k v (n.kids.getD side 0)).1 x (n.keys.getD side []))
 else
  if ¬spareN (loadN D M k v (n.kids.getD side 0)).1 k v then joinM k v M n c x (loadN D M k v (n.kids.getD side 0)).1
  else bothM k v M n c (takeN x (loadN D M k v (n.kids.getD side 0)).1 (n.keys.getD c []))
noncomputable def cutN (D:DiskM) (k v:Nat) (key:Key):Nat->PgM->Int->(NodeM×Int)×PgM
 | 0,M,_=>((zeroN,-1),M)
 | f+1,M,p=>
  if (loadN D M k v p).2≠0 then ((zeroN,(loadN D M k v p).2),M)
  else if (loadN D M k v p).1.leaf then
   if (loadN D M k v p).1.keys[placeV (loadN D M k v p).1.keys key]?=some key then (({ (loadN D M k v p).1 with keys:=delAt (loadN D M k v p).1.keys (placeV (loadN D M k v p).1.keys key),vals:=delAt (loadN D M k v p).1.vals (placeV (loadN D M k v p).1.keys key) },0),M)
   else ((zeroN,5),M)
  else if (cutN D k v key f M ((loadN D M k v p).1.kids.getD (kidV (loadN D M k v p).1.keys key) 0)).1.2≠0 then
   ((zeroN,(cutN D k v key f M ((loadN D M k v p).1.kids.getD (kidV (loadN D M k v p).1.keys key) 0)).1.2),(cutN D k v key f M ((loadN D M k v p).1.kids.getD (kidV (loadN D M k v p).1.keys key) 0)).2)
  else if ¬lowN (cutN D k v key f M ((loadN D M k v p).1.kids.getD (kidV (loadN D M k v p).1.keys key) 0)).1.1 k v then
   (({ (loadN D M k v p).1 with kids:=(loadN D M k v p).1.kids.set (kidV (loadN D M k v p).1.keys key) (storeN k v (cutN D k v key f M ((loadN D M k v p).1.kids.getD (kidV (loadN D M k v p).1.keys key) 0)).2 ((loadN D M k v p).1.kids.getD (kidV (loadN D M k v p).1.keys key) 0) (cutN D k v key f M ((loadN D M k v p).1.kids.getD (kidV (loadN D M k v p).1.keys key) 0)).1.1).1.1 },
    (storeN k v (cutN D k v key f M ((loadN D M k v p).1.kids.getD (kidV (loadN D M k v p).1.keys key) 0)).2 ((loadN D M k v p).1.kids.getD (kidV (loadN D M k v p).1.keys key) 0) (cutN D k v key f M ((loadN D M k v p).1.kids.getD (kidV (loadN D M k v p).1.keys key) 0)).1.1).1.2),
    (storeN k v (cutN D k v key f M ((loadN D M k v p).1.kids.getD (kidV (loadN D M k v p).1.keys key) 0)).2 ((loadN D M k v p).1.kids.getD (kidV (loadN D M k v p).1.keys key) 0) (cutN D k v key f M ((loadN D M k v p).1.kids.getD (kidV (loadN D M k v p).1.keys key) 0)).1.1).2)
  else if kidV (loadN D M k v p).1.keys key>0 then
   evenM D k v (cutN D k v key f M ((loadN D M k v p).1.kids.getD (kidV (loadN D M k v p).1.keys key) 0)).2 (loadN D M k v p).1 (kidV (loadN D M k v p).1.keys key-1) (kidV (loadN D M k v p).1.keys key) (cutN D k v key f M ((loadN D M k v p).1.kids.getD (kidV (loadN D M k v p).1.keys key) 0)).1.1
  else evenM D k v (cutN D k v key f M ((loadN D M k v p).1.kids.getD (kidV (loadN D M k v p).1.keys key) 0)).2 (loadN D M k v p).1 (kidV (loadN D M k v p).1.keys key+1) (kidV (loadN D M k v p).1.keys key) (cutN D k v key f M ((loadN D M k v p).1.kids.getD (kidV (loadN D M k v p).1.keys key) 0)).1.1
section
variable {D:DiskM} {M M':PgM} {k v:Nat}
def HasN (D:DiskM) (M:PgM) (k v:Nat):Nat->NodeM->Nat->Prs->List Int->Prop
 | 0,N,n,L,R=>N=lfOf L/\n=L.length/\R=[]/\PrsOk k v L/\SortP L/\n<=(capsV k v).1
 | h+1,N,n,L,R=>∃u:List Ent,(u.map (·.1)).head?=some []/\N=inOf u/\n=u.length/\L=u.flatMap (·.2.prs)/\R=u.flatMap (·.2.pages)/\KeysOk k u/\SepE u/\n<=(capsV k v).2/\∀e∈u,Has D M k v h e.2/\minOf k v h<=e.2.size
def oneOf (h:Nat):Nat:=if h=0 then 1 else 2
theorem HasN.size{n:Nat}(u:HasN D M k v h N n L R):sizeN N k v=(n,if h=0 then (capsV k v).1 else (capsV k v).2):=by
 cases h with
 | zero=>
  obtain⟨rfl,rfl,_⟩:=u;exact qja
 | succ h=>
  obtain⟨y,_,rfl,rfl,_⟩:=u;exact qi6
theorem HasN.used{h:Nat}{N:NodeM}{n:Nat}{L:Prs}{R:List Int}(z:M.over=false)(y:HasN D M k v h N n L R):∀x∈R,InUse M x:=by
 cases h with
 | zero=>obtain⟨_,_,rfl,_⟩:=y;exact fun x u=>nomatch u
 | succ h=>
  obtain⟨E,_,_,_,_,rfl,_,_,_,A⟩:=y;intro x u;obtain⟨e,C,u⟩:=yJ.1 u;exact (A e C).1.used z x u
theorem HasN.frame{h:Nat}{N:NodeM}{n:Nat}{L:Prs}{R:List Int}(y:HasN D M k v h N n L R)(A:∀x∈R,pagerReadM D M' x=pagerReadM D M x):HasN D M' k v h N n L R:=by
 cases h with
 | zero=>exact y
 | succ h=>
  obtain⟨C,E,G,I,J,rfl,K,O,Q,z⟩:=y;exact⟨C,E,G,I,J,rfl,K,O,Q,fun e u=>⟨(z e u).1.frame fun x U=>A x (yJ.2 ⟨e,u,U⟩),(z e u).2⟩⟩
theorem HasN.ok{n:Nat}(z:M.Wf)(A:M.over=false)(u:HasN D M k v h N n L R)(y:oneOf h<=n):NodeOk N k v:=by
 cases h with
 | zero=>
  obtain⟨rfl,rfl,_,C,E,G⟩:=u;exact qgf C E y G
 | succ h=>
  obtain⟨U,V,rfl,rfl,h4,rfl,I,J,K,O⟩:=u;exact qdp z A I J y K fun e Q=>(O e Q).1
theorem HasN.stored{n:Nat}(A:M.Wf)(C:M.over=false)(y:HasN D M k v h N n L R)(E:oneOf h<=n)(z:pagerReadM D M q=(kindN N,bodyN N,0)):Has D M k v h ⟨q,n,L,q::R⟩:=by
 have u:=y.ok A C E;cases h with
 | zero=>
  obtain⟨rfl,rfl,rfl,K,O,Q⟩:=y;exact qeO u z
 | succ h=>
  obtain⟨U,G,rfl,rfl,rfl,rfl,V,I,h8,J⟩:=y;exact qcB G u z I J
theorem Has.load{h:Nat}{s:Seg}(I:Has D M k v h s):∃N R,loadN D M k v s.page=(N,0)/\HasN D M k v h N s.size s.prs R/\s.pages=s.page::R/\N.leaf=decide (h=0)/\oneOf h<=s.size:=by
 cases h with
 | zero=>
  obtain⟨A,C,y,E⟩:=I;have u:=y.right.2.2.2;rw[if_pos (show (lfOf s.prs).leaf=true from rfl)] at u;have e:(lfOf s.prs).keys.length=s.prs.length:=zK _;rw[e] at u;exact⟨lfOf s.prs,[],y.load E,⟨rfl,C,rfl,fun x G=>⟨y.right.1 x.1 (zY G),y.right.2.1 x.2 (zY G),y.keys x.1 (zY G),y.vals x.2 (zY G)⟩,y.right.2.2.1,by rw[C];exact u.2.2.1⟩,A,rfl,by rw[C];exact u.2.1⟩
 | succ h=>
  obtain⟨J,K,A,C,y,E,O,Q,U⟩:=I;have z:=E.right.innerTwo;exact⟨inOf J,_,E.load O,⟨J,K,rfl,A,C,rfl,KeysOk.of E,Q,by rw[A];exact z.2,U⟩,y,rfl,by rw[A];exact z.1⟩
theorem HasN.store{n:Nat}(A:M.Wf)(u:M.over=false)(y:HasN D M k v h N n L R)(C:oneOf h<=n)(I:InUse M p)(z:p∉R)(E:1<=M.free.length): ∃q M',storeN k v M p N=((q,0),M')/\Step D M M' [p] [q]/\Has D M' k v h ⟨q,n,L,q::R⟩/\M.free.length<=M'.free.length+1:=by obtain⟨q,M',e,st,J,K,_⟩:=qhn (D:=D) A u (y.ok A u C) I (fun e=>by rw[e] at E;exact absurd E oM);exact⟨q,M',e,st,(y.frame fun x G=>(st.rest x (y.used u x G) (fun O=>z (by rw[<- zE.1 O];exact G))).1).stored st.wf st.over C J,K⟩
theorem qvw{h u:Prs}{z:Key×Key}:giveN (lfOf (h++[z])) (lfOf u) key=(lfOf h,lfOf (z::u),z.1):=by unfold giveN;rw[if_pos (show (lfOf _).leaf=true from rfl)];unfold lfOf;simp
theorem qvz{h u:Prs}{z y:Key×Key}:takeN (lfOf h) (lfOf (z::y::u)) key=(lfOf (h++[z]),lfOf (y::u),y.1):=by unfold takeN;rw[if_pos (show (lfOf _).leaf=true from rfl)];unfold lfOf;simp
theorem qvx{h u:Prs}:joinN (lfOf h) (lfOf u) key=lfOf (h++u):=by unfold joinN;unfold lfOf;simp
theorem qvo{a z b:Ent}{h u:List Ent}:giveN (inOf (a::h++[z])) (inOf (b::u)) key=(inOf (a::h),inOf (([],z.2)::(key,b.2)::u),z.1):=by unfold giveN;rw[if_neg (show ¬(inOf _).leaf=true from fun e=>nomatch e)];unfold inOf;simp
theorem qvq{h u:List Ent}{a z y:Ent}:takeN (inOf (a::h)) (inOf (z::y::u)) key=(inOf (a::h++[(key,z.2)]),inOf (([],y.2)::u),y.1):=by unfold takeN;rw[if_neg (show ¬(inOf _).leaf=true from fun e=>nomatch e)];unfold inOf;simp
theorem qvp{h u:List Ent}{a b:Ent}:joinN (inOf (a::h)) (inOf (b::u)) key=inOf (a::h++(key,b.2)::u):=by unfold joinN;unfold inOf;simp
theorem SepE.app{a b:List Ent}(u:SepE a)(A:SepE b)(h:∀x∈a,∀y∈b,KLt x.1 y.1/\∀z∈x.2.prs,KLt z.1 y.1):SepE (a++b):=
 ⟨pairwise_append.2 ⟨u.pair,A.pair,fun x C y E=>h x C y E⟩,fun e G=>(zD.1 G).elim (u.low e) (A.low e)⟩
theorem SepE.sub{a b:List Ent}(h:SepE b)(u:a.Sublist b):SepE a:=⟨h.pair.sublist u,fun e y=>h.low e (u.subset y)⟩
theorem qmt{e:Ent}(h:∀x∈e.2.prs,KLe e.1 x.1):SepE [e]:=⟨pairwise_singleton _ _,fun a u=>by rw[zE.1 u];exact h⟩
theorem qqX{a b:Key}(h:KLt a b):KLt [] b:=by
 cases b with
 | nil=>exact absurd h qj1
 | cons y l=>show cmpL [] (y::l)<0;simp[cmpL]
theorem SepE.head{x:Ent}{r:List Ent}(h:SepE (x::r))(A:∀b∈r,KLt m b.1)(C:∀y∈x.2.prs,KLe m y.1):SepE ((m,x.2)::r):=by have z:=yI.1 h.pair;exact⟨yI.2 ⟨fun b u=>⟨A b u,(z.1 b u).2⟩,z.2⟩,fun b u=>(zG.1 u).elim (fun e=>by rw[e];exact C) fun u=>h.low b (zN _ u)⟩
theorem qmf{x:Ent}{r:List Ent}(z:SepE (x::r))(A:Has D M k v h x.2)(C:∀y∈x.2.prs,KLe m y.1):∀b∈r,KLt m b.1:=fun b E=>by obtain⟨y,u⟩:=exists_mem_of_ne_nil _ A.ne;exact qgd (C y u) (((yI.1 z.pair).1 b E).2 y u)
structure TwoOk (D:DiskM) (M:PgM) (k v:Nat) (h:Nat) (r:NodeM×NodeM×Key) (L:Prs) (P:List Int):Prop where
 res:∃ n1 L1 R1 n2 L2 R2,HasN D M k v h r.1 n1 L1 R1/\HasN D M k v h r.2.1 n2 L2 R2/\L1++L2=L/\R1++R2=P/\(∀ x∈L1,KLt x.1 r.2.2)/\(∀ y∈L2,KLe r.2.2 y.1)/\r.2.2.length=k/\IsB r.2.2/\minOf k v h<=n1/\minOf k v h<=n2/\L1≠[]/\L2≠[]
theorem CapsOk.min(u:CapsOk k v)(h:Nat):oneOf h<=minOf k v h/\1<=minOf k v h:=by have y:=u.leaf;have z:=u.inner;unfold oneOf minOf;split<;>omega
theorem qvg{es:List Ent}(y:∀e∈es,Has D M k v h e.2/\minOf k v h<=e.2.size)(u:es≠[]:=by simp):es.flatMap (·.2.prs)≠[]:=by
 cases es with
 | nil=>exact absurd rfl u
 | cons a r=>intro e;rw[yG] at e;exact (y a oL).1.ne (append_eq_nil_iff.1 e).1
theorem qvi(E:CapsOk k v){R:Prs}(hl:HasN D M k v h Nl n1 R R1)(hr:HasN D M k v h Nr n2 L2 R2)(U:minOf k v h<n1)(h2:n2+1=minOf k v h)(h3:∀x∈R,KLt x.1 key)(h4:∀y∈L2,KLe key y.1)(hk:key.length=k/\IsB key): TwoOk D M k v h (giveN Nl Nr key) (R++L2) (R1++R2):=by
 have aq:=E.min h;cases h with
 | zero=>
  obtain⟨rfl,rfl,rfl,ah,J,K⟩:=hl;obtain⟨rfl,rfl,rfl,ar,O,ai⟩:=hr;have aj:R≠[]:=fun e=>by rw[e] at U;simp at U
  obtain⟨L,z,rfl⟩:∃L z,R=L++[z]:=⟨R.dropLast,R.getLast aj,(dropLast_concat_getLast aj).symm⟩;rw[qvw];have V:=ah z oL;have ak:=SortP.app.1 J;rw[zF] at U K;have au:SortP (z::L2):=by refine yI.2 ⟨fun a ha=>?_,O⟩;obtain⟨y,C,rfl⟩:=mem_map.1 ha;exact qbi (h3 z oL) (h4 y C)
  have av:minOf k v 0=(capsV k v).1 / 2:=rfl;refine⟨L.length,L,[],L2.length+1,z::L2,[],⟨rfl,rfl,rfl,ah.sub fun x I=>zH _ I,ak.1,?_⟩,⟨rfl,rfl,rfl,fun x I=>(zG.1 I).elim (fun e=>by rw[e];exact V) (ar x),au,oJ⟩,oL,rfl,fun x I=>ak.2.2 x I z oL,fun y C=>?_,V.1,V.2.2.1,?_,oJ,?_,oL⟩;simp at K;omega;rcases zG.1 C with rfl|C;exact qaD;exact qaU (qbi (h3 z oL) (h4 y C));simp at U;omega;intro e;rw[e] at U;simp at U;omega
 | succ h=>
  obtain⟨aa,aw,rfl,rfl,rfl,rfl,al,J,K,ab⟩:=hl;obtain⟨u,ax,rfl,rfl,rfl,rfl,ay,O,ai,ac⟩:=hr;obtain⟨a,G,z,rfl⟩:∃a G z,aa=a::G++[z]:=by
   have:2<=aa.length:=(by have:=aq.1;unfold oneOf at this;rw[iN] at this;omega);match aa,this with
   | a::b::r,_=>exact⟨a,(b::r).dropLast,(b::r).getLast oL,by rw[xH,dropLast_concat_getLast]⟩
  obtain⟨b,u,rfl⟩:∃b G,u=b::G:=by
   cases u with
   | nil=>cases ax
   | cons b r=>exact⟨b,r,rfl⟩
  rw[qvo];have V:=ab z oL;have am:=al z (show z∈G++[z] by simp);have an:=SepE.mid (A:=a::G) (e:=z) (B:=[]) J;have Q:KLt z.1 key:=by obtain⟨x,I⟩:=exists_mem_of_ne_nil _ V.1.ne;exact qgd (J.low z oL x I) (h3 x (yJ.2 ⟨z,oL,I⟩))
  have ao:∀y∈b.2.prs,KLe key y.1:=fun y C=>h4 y (by rw[yG];exact zH _ C);have ad:∀c∈u,KLt key c.1:=qmf O (ac b oL).1 ao;have ae:SepE (([],z.2)::(key,b.2)::u):=by refine SepE.app (a:=[([],z.2)]) (qmt fun x _=>qez _) (O.head ad ao) fun x I y C=>?_;rw[zE.1 I];rcases zG.1 C with rfl|C;exact⟨qqX Q,fun w hw=>h3 w (yJ.2 ⟨z,oL,hw⟩)⟩;exact⟨qqX (ad y C),fun w hw=>qaA (h3 w (yJ.2 ⟨z,oL,hw⟩)) (ad y C)⟩
  have av:minOf k v (h+1)=(capsV k v).2 / 2:=rfl;simp only[zF,yH,length_nil] at U h2 K ai;have aA:(a::G++[z]).flatMap (·.2.prs)=(a::G).flatMap (·.2.prs)++z.2.prs:=(by simp[yP]);have aB:(a::G++[z]).flatMap (·.2.pages)=(a::G).flatMap (·.2.pages)++z.2.pages:=(by simp[yP]);refine⟨G.length+1,(a::G).flatMap (·.2.prs),(a::G).flatMap (·.2.pages),u.length+2,z.2.prs++(b.2.prs++u.flatMap (·.2.prs)),z.2.pages++(b.2.pages++u.flatMap (·.2.pages)),⟨a::G,aw,rfl,rfl,rfl,rfl,fun c E=>al c (show c∈G++[z] from zH _ E),J.sub (sublist_append_left _ _),oJ,fun c E=>ab c (zH _ E)⟩,⟨([],z.2)::(key,b.2)::u,rfl,rfl,rfl,rfl,rfl,fun c E=>(zG.1 E).elim (fun e=>by rw[e];exact hk) (ay c),ae,oJ,fun c E=>?_⟩,?_,?_,fun x I=>?_,fun y C=>?_,am.1,am.2,oJ,oJ,?_,?_⟩;rcases zG.1 E with rfl|E;exact V;rcases zG.1 E with rfl|E;exact ac b oL;exact ac c (by simp[E]);rw[aA];simp only[yG,zV];rw[aB];simp only[yG,zV];obtain⟨c,E,I⟩:=yJ.1 I;exact an.1 c E x I;rcases zD.1 C with C|C;exact J.low z oL y C;exact qcD (qaU Q) (h4 y (by rw[yG];exact C));exact qvg (fun c E=>ab c (zH _ E));intro e;exact V.1.ne (append_eq_nil_iff.1 e).1
theorem qs4{es:List Ent}(z:SepE es)(A:∀e∈es,Has D M k v h e.2/\minOf k v h<=e.2.size)(C:∀x∈es.flatMap (·.2.prs),KLt x.1 key):∀e∈es,KLt e.1 key:=fun e u=>by obtain⟨x,y⟩:=exists_mem_of_ne_nil _ (A e u).1.ne;exact qgd (z.low e u x y) (C x (yJ.2 ⟨e,u,y⟩))
theorem qvR(hc:CapsOk k v){L1:Prs}(hl:HasN D M k v h Nl n1 L1 R1)(hr:HasN D M k v h Nr n2 L2 R2)(h1:n1+1=minOf k v h)(h2:minOf k v h<n2)(h3:∀x∈L1,KLt x.1 key)(h4:∀y∈L2,KLe key y.1)(hk:key.length=k/\IsB key): TwoOk D M k v h (takeN Nl Nr key) (L1++L2) (R1++R2):=by
 have hmn:=hc.min h;cases h with
 | zero=>
  obtain⟨rfl,rfl,rfl,hL1,hs1,hb1⟩:=hl;obtain⟨rfl,rfl,rfl,hL2,hs2,hb2⟩:=hr;obtain⟨z,y,L,rfl⟩:∃z y L,L2=z::y::L:=by
   match L2,h2 with
   | [],h=>simp at h
   | [_],h=>simp at h;omega
   | z::y::L,_=>exact⟨z,y,L,rfl⟩
  rw[qvz];have hz:=hL2 z oL;have hy:=hL2 y oL;have hcs:=yI.1 (show (z.1::keysP (y::L)).Pairwise KLt from hs2);simp only[yH] at h2 hb2;have hml:minOf k v 0=(capsV k v).1 / 2:=rfl;have hzy:KLt z.1 y.1:=hcs.1 y.1 oL;refine⟨L1.length+1,L1++[z],[],L.length+1,y::L,[],⟨rfl,oL,rfl,fun x hx=>(zD.1 hx).elim (hL1 x) fun hx=>by rw[zE.1 hx];exact hz,?_,oJ⟩,⟨rfl,oL,rfl,fun x hx=>hL2 x (zN _ hx),hcs.2,oJ⟩,oL,rfl,fun x hx=>?_,fun w hw=>?_,hy.1,hy.2.2.1,oJ,oJ,oL,oL⟩;exact SortP.app.2 ⟨hs1,pairwise_singleton _ _,fun x hx w hw=>by rw[zE.1 hw];exact qbi (h3 x hx) (h4 z oL)⟩;rcases zD.1 hx with hx|hx;exact qaA (qbi (h3 x hx) (h4 z oL)) hzy;rw[zE.1 hx];exact hzy;rcases zG.1 hw with rfl|hw;exact qaD;exact qaU ((yI.1 (show (y.1::keysP L).Pairwise KLt from hcs.2)).1 w.1 (zY hw))
 | succ h=>
  obtain⟨es1,hh1,rfl,rfl,rfl,rfl,hk1,hs1,hb1,hp1⟩:=hl;obtain⟨es2,hh2,rfl,rfl,rfl,rfl,hk2,hs2,hb2,hp2⟩:=hr;obtain⟨a,es,rfl⟩:∃a es,es1=a::es:=by
   cases es1 with
   | nil=>cases hh1
   | cons b r=>exact⟨b,r,rfl⟩
  obtain⟨z,y,es2,rfl⟩:∃z y es,es2=z::y::es:=by
   have h9:=hmn.2;match es2,h2 with
   | [],h=>simp at h
   | [_],h=>simp at h;omega
   | z::y::L,_=>exact⟨z,y,L,rfl⟩
  rw[qvq];have hz:=hp2 z oL;have hyk:=hk2 y (show y∈y::es2 by simp);have hz4:∀w∈z.2.prs,KLe key w.1:=fun w hw=>h4 w (by rw[yG];exact zH _ hw);have hky:KLt key y.1:=qmf hs2 hz.1 hz4 y oL;have hcs:=yI.1 hs2.pair;have hcy:=yI.1 hcs.2;have hsl:SepE (a::es++[(key,z.2)]):=SepE.app hs1 (qmt hz4) fun x hx w hw=>by rw[zE.1 hw];exact⟨qs4 hs1 hp1 h3 x hx,fun q hq=>h3 q (yJ.2 ⟨x,hx,hq⟩)⟩
  have hsr:SepE (([],y.2)::es2):=SepE.relow (es:=y::es2) (hs2.sub (sublist_cons_self _ _));have hml:minOf k v (h+1)=(capsV k v).2 / 2:=rfl;simp only[yH] at h1 h2 hb1 hb2;refine⟨es.length+2,(a::es).flatMap (·.2.prs)++z.2.prs,(a::es).flatMap (·.2.pages)++z.2.pages,es2.length+1,y.2.prs++es2.flatMap (·.2.prs),y.2.pages++es2.flatMap (·.2.pages),⟨a::es++[(key,z.2)],hh1,rfl,oL,by simp[yP],by simp[yP],fun c hc=>?_,hsl,oJ,fun c hc=>?_⟩,⟨([],y.2)::es2,rfl,rfl,rfl,rfl,rfl,fun c hc=>hk2 c (show c∈y::es2 from zN _ hc),hsr,oJ,fun c hc=>?_⟩,?_,?_,fun x hx=>?_,fun w hw=>?_,hyk.1,hyk.2,oJ,oJ,?_,?_⟩;rcases zD.1 (show c∈es++[(key,z.2)] from hc) with hc|hc;exact hk1 c hc;rw[zE.1 hc];exact hk;rcases zD.1 hc with hc|hc;exact hp1 c hc;rw[zE.1 hc];exact hz;rcases zG.1 hc with rfl|hc;exact hp2 y oL;exact hp2 c (by simp[hc]);simp only[yG,zV];simp only[yG,zV];rcases zD.1 hx with hx|hx;exact qaA (h3 x hx) hky;exact (hcs.1 y oL).2 x hx;rcases zD.1 hw with hw|hw;exact hs2.low y oL w hw;obtain⟨c,hc,hw⟩:=yJ.1 hw;exact qcD (qaU (hcy.1 c hc).1) (hs2.low c (by simp[hc]) w hw);intro e;exact hz.1.ne (append_eq_nil_iff.1 e).2;intro e;exact (hp2 y oL).1.ne (append_eq_nil_iff.1 e).1
theorem qvs{L1:Prs}(hl:HasN D M k v h Nl n1 L1 R1)(hr:HasN D M k v h Nr n2 L2 R2)(h1:n1+n2<=(if h=0 then (capsV k v).1 else (capsV k v).2))(h3:∀x∈L1,KLt x.1 key)(h4:∀y∈L2,KLe key y.1)(hk:key.length=k/\IsB key): HasN D M k v h (joinN Nl Nr key) (n1+n2) (L1++L2) (R1++R2):=by
 cases h with
 | zero=>
  obtain⟨rfl,rfl,rfl,ae,A,af⟩:=hl;obtain⟨rfl,rfl,rfl,ag,C,ah⟩:=hr;rw[qvx];exact⟨rfl,oL,rfl,fun x J=>(zD.1 J).elim (ae x) (ag x),SortP.app.2 ⟨A,C,fun x J y E=>qbi (h3 x J) (h4 y E)⟩,h1⟩
 | succ h=>
  obtain⟨O,Q,rfl,rfl,rfl,rfl,ai,A,af,R⟩:=hl;obtain⟨z,aj,rfl,rfl,rfl,rfl,ak,C,ah,G⟩:=hr;obtain⟨a,K,rfl⟩:∃a K,O=a::K:=by
   cases O with
   | nil=>cases Q
   | cons b r=>exact⟨b,r,rfl⟩
  obtain⟨b,z,rfl⟩:∃b K,z=b::K:=by
   cases z with
   | nil=>cases aj
   | cons b r=>exact⟨b,r,rfl⟩
  rw[qvp];have U:∀y∈b.2.prs,KLe key y.1:=fun y E=>h4 y (by rw[yG];exact zH _ E);have I:=qmf C (G b oL).1 U;refine⟨a::K++(key,b.2)::z,Q,rfl,by simp;omega,by simp[yP],by simp[yP],fun c u=>?_,SepE.app A (C.head I U) fun x J y E=>?_,by simpa using h1,fun c u=>?_⟩;rcases zD.1 (show c∈K++(key,b.2)::z from u) with u|u;exact ai c u;rcases zG.1 u with rfl|u;exact hk;exact ak c u;have V:=qs4 A R h3 x J;have aa:∀w∈x.2.prs,KLt w.1 key:=fun w hw=>h3 w (yJ.2 ⟨x,J,hw⟩);rcases zG.1 E with rfl|E;exact⟨V,aa⟩;exact⟨qaA V (I y E),fun w hw=>qaA (aa w hw) (I y E)⟩;rcases zD.1 u with u|u;exact R c u;rcases zG.1 u with rfl|u;exact G b oL;exact G c (by simp[u])
end
end
section
section
variable {D:DiskM} {M M':PgM} {k v:Nat}
theorem Step.part{M1:PgM}{a x y:List Int}(A:∀z∈a++(x++b),InUse M z)(C:(a++(x++b)).Nodup)(h:Step D M M1 x y):Step D M M1 (a++(x++b)) (a++(y++b)):=by have u:(a++(x++b)).Perm ((a++b)++x):=qhd (z:=a);exact ((h.beside (Z:=a++b) (fun z E=>A z (u.mem_iff.2 (zH _ E))) (u.nodup_iff.1 C)).perm u.symm (qhd (z:=a)).symm)
theorem Step.kid{M1 u:PgM}{h Q:List Int}(A:∀z∈p::R,InUse M z)(C:(p::R).Nodup)(E:Step D M M1 R h)(G:Step D M1 u [p] Q):Step D M u (p::R) (Q++h):=by
 have:=Step.node (D:=D) (p:=p) (a:=[]) (b:=[]) (x:=R) (y:=h) (Q:=Q) (oP A) (oP C) E G
 simpa using this
theorem qiU{A B:List Ent}{e1 h:Ent}:((A++e1::h::B).map (·.1)).tail.getD A.length []=h.1:=by
 cases A with
 | nil=>rfl
 | cons a A=>simp
theorem qey{A B:List Ent}{e1 h:Ent}:((A++e1::h::B).map (·.2.page)).getD A.length 0=e1.2.page/\((A++e1::h::B).map (·.2.page)).getD (A.length+1) 0=h.2.page:=by constructor;simp;simp
theorem qvO{A B:List Ent}{e1 h:Ent}{s1 s2:Seg}:(⟨false,((A++e1::h::B).map (·.1)).tail.set A.length m,[],(((A++e1::h::B).map (·.2.page)).set A.length s1.page).set (A.length+1) s2.page⟩:NodeM)=inOf (A++(e1.1,s1)::(m,s2)::B):=by
 unfold inOf;congr 1;cases A with
 | nil=>rfl
 | cons a A=>simp[set_append_right]
 simp[set_append_right]
theorem qve{A B:List Ent}{e1 y:Ent}{s:Seg}:(⟨false,delAt ((A++e1::y::B).map (·.1)).tail A.length,[],delAt (((A++e1::y::B).map (·.2.page)).set A.length s.page) (A.length+1)⟩:NodeM)=inOf (A++(e1.1,s)::B):=by
 have C:(A.map (·.2.page)).length=A.length:=zK _;unfold inOf delAt;congr 1;cases A with
 | nil=>rfl
 | cons a A=>
  have u:((a::A++e1::y::B).map (·.1)).tail=(A.map (·.1)++[e1.1])++(y.1::B.map (·.1)):=oL;have z:((a::A++(e1.1,s)::B).map (·.1)).tail=(A.map (·.1)++[e1.1])++B.map (·.1):=oL;have h:(A.map (·.1)++[e1.1]).length=(a::A).length:=oL;rw[u,z,take_left' h,<- h,drop_length_add_append];rfl
 have u:((A++e1::y::B).map (·.2.page)).set A.length s.page=(A.map (·.2.page)++[s.page])++(y.2.page::B.map (·.2.page)):=(by rw[xJ,set_append_right _ _ oJ,C,Nat.sub_self];simp);have h:(A.map (·.2.page)++[s.page]).length=A.length+1:=oL;rw[u,take_left' h,<- h,drop_length_add_append];simp
theorem qvN{A B:List Ent}{e:Ent}{s:Seg}:(⟨false,((A++e::B).map (·.1)).tail,[],((A++e::B).map (·.2.page)).set A.length s.page⟩:NodeM)=inOf (A++(e.1,s)::B):=by
 have h:(A.map (·.2.page)).length=A.length:=zK _;unfold inOf;congr 1;cases A with
 | nil=>rfl
 | cons a A=>simp
 rw[xJ,set_append_right _ _ oJ,h,Nat.sub_self];simp
structure Nbrs (D:DiskM) (M:PgM) (k v:Nat) (h:Nat) (A B:List Ent) (e1 e2:Ent) (Nl Nr:NodeM) (n1 n2:Nat) (L1 L2:Prs) (R1 R2:List Int):Prop where
 wf:M.Wf
 over:M.over=false
 head:((A++e1::e2::B).map (·.1)).head?=some []
 keys:KeysOk k (A++e1::e2::B)
 sep:SepE (A++(e1.1,⟨0,0,L1,[]⟩)::(e2.1,⟨0,0,L2,[]⟩)::B)
 len:A.length+B.length+2<=(capsV k v).2
 rest:∀ b,b∈A\/b∈B->Has D M k v h b.2/\minOf k v h<=b.2.size
 left:HasN D M k v h Nl n1 L1 R1
 right:HasN D M k v h Nr n2 L2 R2
 use:∀ x∈A.flatMap (·.2.pages)++(((e1.2.page::R1)++(e2.2.page::R2))++B.flatMap (·.2.pages)),InUse M x
 nodup:(A.flatMap (·.2.pages)++(((e1.2.page::R1)++(e2.2.page::R2))++B.flatMap (·.2.pages))).Nodup
theorem Nbrs.mids{A B:List Ent}{e1 u:Ent}{E G:NodeM}{C z:Prs}{I J:List Int}(H:Nbrs D M k v h A B e1 u E G n1 n2 C z I J):(∀x∈C,KLt x.1 u.1)/\(∀y∈z,KLe u.1 y.1)/\u.1.length=k/\IsB u.1:=by have K:=pairwise_append.1 H.sep.pair;have O:=yI.1 K.2.1;have Q:=H.keys u (by cases A<;>simp);exact⟨(O.1 (u.1,⟨0,0,z,[]⟩) oL).2,H.sep.low (u.1,⟨0,0,z,[]⟩) oL,Q⟩
theorem qqF(hc:CapsOk k v){A B:List Ent}{e1 C:Ent}{L1:Prs}(H:Nbrs D M k v h A B e1 C Nl Nr n1 n2 L1 L2 R1 R2){r:NodeM×NodeM×Key}(hr:TwoOk D M k v h r (L1++L2) (R1++R2))(hf:2<=M.free.length:=by omega): ∃N M' R,bothM k v M (inOf (A++e1::C::B)) A.length r=((N,0),M')/\HasN D M' k v (h+1) N (A.length+B.length+2) (A.flatMap (·.2.prs)++((L1++L2)++B.flatMap (·.2.prs))) R/\ Step D M M' (A.flatMap (·.2.pages)++(((e1.2.page::R1)++(C.2.page::R2))++B.flatMap (·.2.pages))) R/\M.free.length<=M'.free.length+2:=by
 obtain⟨m1,K1,G,m2,K2,I,aJ,aK,eL,eR,aL,aM,aN,aO,aP,aQ,ax,ay⟩:=hr.res;have bc:=hc.min h;have V:=H.use;have ao:=H.nodup;have pm:(((e1.2.page::R1)++(C.2.page::R2))).Perm (e1.2.page::C.2.page::(R1++R2)):=by rw[xH];exact (perm_middle).cons _
 rw[<- eR] at pm;have O:∀x,x∈e1.2.page::C.2.page::(G++I)->x∈A.flatMap (·.2.pages)++(((e1.2.page::R1)++(C.2.page::R2))++B.flatMap (·.2.pages)):=fun x y=>zI _ (zH _ (pm.mem_iff.2 y));have af:(e1.2.page::C.2.page::(G++I)).Nodup:=pm.nodup_iff.1 (yL.1 (yL.1 ao).2.1).1;have Q:=nodup_cons.1 af;have ag:=nodup_cons.1 Q.2;have aR:=V _ (O e1.2.page oL);have aA:=V _ (O C.2.page oL);obtain⟨E,M1,s1,aa,H1,bd⟩:=aJ.store H.wf H.over oJ aR (fun hm=>Q.1 (zN _ (zH _ hm))) oJ;have J:∀x,InUse M x->x≠e1.2.page->pagerReadM D M1 x=pagerReadM D M x/\InUse M1 x/\x≠E:=fun x y ap=>by
  have:=aa.rest x y (oP ap)
  exact⟨this.1,this.2.1,by simpa using this.2.2⟩
 have ab:C.2.page≠e1.2.page:=fun e=>Q.1 (by rw[e];simp);have aT:HasN D M1 k v h r.2.1 m2 K2 I:=aK.frame fun x y=>(J x (V x (O x (by simp[y]))) (fun e=>Q.1 (by rw[<- e];simp[y]))).1;obtain⟨K,M2,s2,aB,H2,bh⟩:=aT.store aa.wf aa.over oJ (J _ aA ab).2.1 (fun hm=>ag.1 (zI _ hm)) oJ;have ac:∀x,InUse M1 x->x≠C.2.page->pagerReadM D M2 x=pagerReadM D M1 x/\InUse M2 x/\x≠K:=fun x y ap=>by
  have:=aB.rest x y (oP ap)
  exact⟨this.1,this.2.1,by simpa using this.2.2⟩
 have ah:∀x∈E::G,InUse M1 x/\x≠C.2.page:=fun x y=>by refine⟨H1.used aa.over x y,fun e=>?_⟩;rcases zG.1 y with e'|y;rcases aa.new E oL with U|U;exact ab (by rw[<- e,e',zE.1 U]);exact U (by rw[<- e',e];exact aA);exact ag.1 (zH _ (e▸y))
 have aU:Has D M2 k v h ⟨E,m1,K1,E::G⟩:=H1.frame fun x y=>(ac x (ah x y).1 (ah x y).2).1;have aV:∀b,b∈A\/b∈B->∀x∈b.2.pages,InUse M x/\x≠e1.2.page/\x≠C.2.page:=fun b u x y=>by
  have hd:=yL.1 ao;have aW:=yL.1 hd.2.1;have aC:∀z,z=e1.2.page\/z=C.2.page->z∈(e1.2.page::R1)++(C.2.page::R2):=fun z hz=>pm.mem_iff.2 (by rcases hz with rfl|rfl<;>simp);have key:∀z,z=e1.2.page\/z=C.2.page->x≠z:=fun z hz e=>by rcases u with u|u;exact hd.2.2 x (yJ.2 ⟨b,u,y⟩) z (zH _ (aC z hz)) e;exact aW.2.2 z (aC z hz) x (yJ.2 ⟨b,u,y⟩) e.symm
  refine⟨V x ?_,key _ (.inl rfl),key _ (.inr rfl)⟩;rcases u with u|u;exact zH _ (yJ.2 ⟨b,u,y⟩);exact zI _ (zI _ (yJ.2 ⟨b,u,y⟩))
 have ad:∀b,b∈A\/b∈B->Has D M2 k v h b.2/\minOf k v h<=b.2.size:=fun b u=>⟨(H.rest b u).1.frame fun x y=>by have U:=aV b u x y;have h8:=J x U.1 U.2.1;exact ((ac x h8.2.1 U.2.2).1).trans h8.1,(H.rest b u).2⟩;have hL:K1++K2=L1++L2:=eL;have aD:SepE (A++(e1.1,(⟨E,m1,K1,E::G⟩:Seg))::(r.2.2,⟨K,m2,K2,K::I⟩)::B):=by
  have hS:=H.sep;have hp:=pairwise_append.1 hS.pair;have ae:=yI.1 hp.2.1;have aF:=yI.1 ae.2;have hj:SepE (A++(e1.1,(⟨0,0,L1++L2,[]⟩:Seg))::B):=by refine⟨pairwise_append.2 ⟨hp.1,yI.2 ⟨fun b u=>⟨(ae.1 b (by simp[u])).1,fun x y=>?_⟩,aF.2⟩,fun a ha b u=>?_⟩,fun b u x y=>?_⟩;rcases zD.1 y with y|y;exact (ae.1 b (by simp[u])).2 x y;exact (aF.1 b u).2 x y;rcases zG.1 u with rfl|u;exact hp.2.2 a ha (e1.1,⟨0,0,L1,[]⟩) oL;exact hp.2.2 a ha b (by simp[u]);rcases zD.1 u with u|u;exact hS.low b (by simp[u]) x y;rcases zG.1 u with rfl|u;rcases zD.1 y with y|y;exact hS.low (e1.1,⟨0,0,L1,[]⟩) oL x y;have U:=hS.low (C.1,⟨0,0,L2,[]⟩) oL x y;exact qcD (qaU (ae.1 (C.1,⟨0,0,L2,[]⟩) oL).1) U;exact hS.low b (by simp[u]) x y
  exact hj.cut2 hL.symm aL aM ax ay
 have aq:KeysOk k (A++(e1.1,(⟨E,m1,K1,E::G⟩:Seg))::(r.2.2,⟨K,m2,K2,K::I⟩)::B):=by
  have U:KeysOk k (A++e1::B):=fun b u=>H.keys b (by
   cases A with
   | nil=>exact zN _ u
   | cons a A=>
    rcases zD.1 (show b∈A++e1::B from u) with u|u;exact zH (e1::C::B) u;exact zI A ((zG.1 u).elim (fun e=>by rw[e];simp) fun u=>by simp[u]))
  exact qoT U ⟨aN,aO⟩
 have ar:((A++(e1.1,(⟨E,m1,K1,E::G⟩:Seg))::(r.2.2,⟨K,m2,K2,K::I⟩)::B).map (·.1)).head?=some []:=by
  have U:=H.head;cases A with
  | nil=>exact U
  | cons a A=>exact U
 refine⟨inOf (A++(e1.1,(⟨E,m1,K1,E::G⟩:Seg))::(r.2.2,⟨K,m2,K2,K::I⟩)::B),M2,_,?_,⟨_,ar,rfl,by simp;omega,?_,rfl,aq,aD,H.len,fun b u=>?_⟩,?_,oJ⟩;have aX:(inOf (A++e1::C::B)).kids.getD A.length 0=e1.2.page:=qey.1;have aY:(inOf (A++e1::C::B)).kids.getD (A.length+1) 0=C.2.page:=qey.2;unfold bothM;rw[aX,aY,s1];dsimp only;rw[if_neg (fun h=>h rfl),s2];exact congrArg (fun N=>((N,(0:Int)),M2)) (qvO (s1:=⟨E,m1,K1,E::G⟩) (s2:=⟨K,m2,K2,K::I⟩));rw[qaH,yG,<- hL,zV];rcases zD.1 u with u|u;exact ad b (.inl u);rcases zG.1 u with rfl|u;exact⟨aU,aP⟩;rcases zG.1 u with rfl|u;exact⟨H2,aQ⟩;exact ad b (.inr u);have t1:Step D M M1 (e1.2.page::C.2.page::(G++I)) ([E]++C.2.page::(G++I)):=by
  have:=aa.beside (Z:=C.2.page::(G++I)) (fun x y=>V x (O x (zN _ y))) (by have p9:(e1.2.page::C.2.page::(G++I)).Perm ((C.2.page::(G++I))++[e1.2.page]):=(perm_append_singleton _ _).symm;exact p9.nodup_iff.1 af)
  exact this.perm (perm_append_singleton _ _) perm_append_comm
 have aG:∀x∈[E]++(G++I),InUse M1 x:=fun x y=>t1.has x (by rcases zD.1 y with y|y;exact zH _ y;exact zI _ (zN _ y));have p8:([E]++C.2.page::(G++I)).Perm (([E]++(G++I))++[C.2.page]):=(by exact perm_middle.trans<|(perm_append_singleton _ _).symm);have t2:=aB.beside (Z:=[E]++(G++I)) aG (p8.nodup_iff.1 t1.nodup);have t3:=(t1.perm (.refl _) p8).trans t2;have p7:(([E]++(G++I))++[K]).Perm ((E::G)++(K::I)):=(by show (E::((G++I)++[K])).Perm (E::(G++K::I));refine List.Perm.cons _ ((perm_append_singleton _ _).trans ?_);exact perm_middle.symm);have t4:=Step.part (D:=D) (a:=A.flatMap (·.2.pages)) (b:=B.flatMap (·.2.pages)) V ao (t3.perm pm.symm p7);rw[qaH,yG];refine t4.perm (.refl _) ?_;rw[zV]
end
end
section
section
variable {D:DiskM} {M M':PgM} {k v:Nat}
theorem qmS(z:M.Wf)(A:M.over=false)(C:InUse M n):∃M',dropV M n=(0,M')/\Step D M M' [n] []/\M.free.length<=M'.free.length:=by
 obtain⟨M',e,t,E,G,I⟩:=qjH (D:=D) (q:=n+1) z A C;have y:∀x,x≠n->pagerReadM D M' x=pagerReadM D M x/\(InUse M' x↔InUse M x):=fun x u=>by by_cases hq':x=n+1;rw[hq'];exact⟨E,G⟩;exact⟨t.rest x hq' u,t.use x hq' u⟩
 refine⟨M',e,⟨t.wf,t.over,t.roots,t.sup,t.lists,t.named,t.Named,t.turn,fun x u h=>?_,fun x u=>?_,fun x u=>(nomatch u),fun x u=>(nomatch u),.nil,t.old⟩,I⟩;have h:x≠n:=(oP h);exact⟨(y x h).1,(y x h).2.2 u,oL⟩;by_cases h:x=n;subst h;exact absurd u (t.left oJ);exact .inr ⟨(y x h).2.1 u,by simpa using h⟩
theorem qm1(hc:CapsOk k v){A B:List Ent}{e1 C:Ent}{L1:Prs}{E G:List Int}(H:Nbrs D M k v h A B e1 C Nl Nr n1 n2 L1 L2 E G)(h1:n1+n2<=(if h=0 then (capsV k v).1 else (capsV k v).2):=by omega)(h2:minOf k v h<=n1+n2:=by omega)(hf:1<=M.free.length:=by omega): ∃N M' R,joinM k v M (inOf (A++e1::C::B)) A.length Nl Nr=((N,0),M')/\HasN D M' k v (h+1) N (A.length+B.length+1) (A.flatMap (·.2.prs)++((L1++L2)++B.flatMap (·.2.prs))) R/\ Step D M M' (A.flatMap (·.2.pages)++(((e1.2.page::E)++(C.2.page::G))++B.flatMap (·.2.pages))) R/\M.free.length<=M'.free.length+1:=by
 obtain⟨ax,ay,az,aA⟩:=H.mids;have hJ:=qvs H.left H.right h1 ax ay ⟨az,aA⟩;have aX:=hc.min h;have J:=H.use;have ag:=H.nodup;have pm:(((e1.2.page::E)++(C.2.page::G))).Perm (e1.2.page::C.2.page::(E++G)):=by rw[xH];exact (perm_middle).cons _
 have K:∀x,x∈e1.2.page::C.2.page::(E++G)->x∈A.flatMap (·.2.pages)++(((e1.2.page::E)++(C.2.page::G))++B.flatMap (·.2.pages)):=fun x y=>zI _ (zH _ (pm.mem_iff.2 y));have af:(e1.2.page::C.2.page::(E++G)).Nodup:=pm.nodup_iff.1 (yL.1 (yL.1 ag).2.1).1;have O:=nodup_cons.1 af;have al:=nodup_cons.1 O.2;have aB:=J _ (K e1.2.page oL);have am:=J _ (K C.2.page oL);obtain⟨q,M1,s1,Q,H1,aY⟩:=hJ.store H.wf H.over oJ aB (fun hm=>O.1 (zN _ hm)) hf;have U:C.2.page≠e1.2.page:=fun e=>O.1 (by rw[e];simp);have I:∀x,InUse M x->x≠e1.2.page->pagerReadM D M1 x=pagerReadM D M x/\InUse M1 x/\x≠q:=fun x y ah=>by
  have:=Q.rest x y (oP ah)
  exact⟨this.1,this.2.1,by simpa using this.2.2⟩
 obtain⟨M2,s2,an,a1⟩:=qmS (D:=D) Q.wf Q.over (I _ am U).2.1;have V:∀x,InUse M1 x->x≠C.2.page->pagerReadM D M2 x=pagerReadM D M1 x/\InUse M2 x:=fun x y ah=>by
  have:=an.rest x y (oP ah)
  exact⟨this.1,this.2.1⟩
 have aC:Has D M2 k v h ⟨q,n1+n2,L1++L2,q::(E++G)⟩:=H1.frame fun x y=>(V x (H1.used Q.over x y) (fun e=>by rcases zG.1 y with e'|y;exact (I _ am U).2.2 (by rw[<- e,e']);exact al.1 (e▸y))).1;have aD:∀b,b∈A\/b∈B->∀x∈b.2.pages,InUse M x/\x≠e1.2.page/\x≠C.2.page:=fun b u x y=>by
  have hd:=yL.1 ag;have aE:=yL.1 hd.2.1;have ao:∀z,z=e1.2.page\/z=C.2.page->z∈(e1.2.page::E)++(C.2.page::G):=fun z hz=>pm.mem_iff.2 (by rcases hz with rfl|rfl<;>simp);have key:∀z,z=e1.2.page\/z=C.2.page->x≠z:=fun z hz e=>by rcases u with u|u;exact hd.2.2 x (yJ.2 ⟨b,u,y⟩) z (zH _ (ao z hz)) e;exact aE.2.2 z (ao z hz) x (yJ.2 ⟨b,u,y⟩) e.symm
  refine⟨J x ?_,key _ (.inl rfl),key _ (.inr rfl)⟩;rcases u with u|u;exact zH _ (yJ.2 ⟨b,u,y⟩);exact zI _ (zI _ (yJ.2 ⟨b,u,y⟩))
 have aa:∀b,b∈A\/b∈B->Has D M2 k v h b.2/\minOf k v h<=b.2.size:=fun b u=>⟨(H.rest b u).1.frame fun x y=>by have h9:=aD b u x y;have h8:=I x h9.1 h9.2.1;exact ((V x h8.2.1 h9.2.2).1).trans h8.1,(H.rest b u).2⟩;have hS:=H.sep;have hp:=pairwise_append.1 hS.pair;have ae:=yI.1 hp.2.1;have aq:=yI.1 ae.2;have ar:SepE (A++(e1.1,(⟨q,n1+n2,L1++L2,q::(E++G)⟩:Seg))::B):=by refine⟨pairwise_append.2 ⟨hp.1,yI.2 ⟨fun b u=>⟨(ae.1 b (by simp[u])).1,fun x y=>?_⟩,aq.2⟩,fun a ha b u=>?_⟩,fun b u x y=>?_⟩;rcases zD.1 y with y|y;exact (ae.1 b (by simp[u])).2 x y;exact (aq.1 b u).2 x y;rcases zG.1 u with rfl|u;exact hp.2.2 a ha (e1.1,⟨0,0,L1,[]⟩) oL;exact hp.2.2 a ha b (by simp[u]);rcases zD.1 u with u|u;exact hS.low b (by simp[u]) x y;rcases zG.1 u with rfl|u;rcases zD.1 y with y|y;exact hS.low (e1.1,⟨0,0,L1,[]⟩) oL x y;have h9:=hS.low (C.1,⟨0,0,L2,[]⟩) oL x y;exact qcD (qaU (ae.1 (C.1,⟨0,0,L2,[]⟩) oL).1) h9;exact hS.low b (by simp[u]) x y
 have ai:KeysOk k (A++(e1.1,(⟨q,n1+n2,L1++L2,q::(E++G)⟩:Seg))::B):=by
  have h9:KeysOk k (A++e1::B):=fun b u=>H.keys b (by
   cases A with
   | nil=>exact zN _ u
   | cons a A=>
    rcases zD.1 (show b∈A++e1::B from u) with u|u;exact zH (e1::C::B) u;exact zI A ((zG.1 u).elim (fun e=>by rw[e];simp) fun u=>by simp[u]))
  exact qku h9
 have aj:((A++(e1.1,(⟨q,n1+n2,L1++L2,q::(E++G)⟩:Seg))::B).map (·.1)).head?=some []:=by
  have h9:=H.head;cases A with
  | nil=>exact h9
  | cons a A=>exact h9
 have aP:=H.len;refine⟨inOf (A++(e1.1,(⟨q,n1+n2,L1++L2,q::(E++G)⟩:Seg))::B),M2,_,?_,⟨_,aj,rfl,by simp;omega,by rw[qaH],rfl,ai,ar,oJ,fun b u=>?_⟩,?_,oJ⟩;have aF:(inOf (A++e1::C::B)).kids.getD A.length 0=e1.2.page:=qey.1;have aG:(inOf (A++e1::C::B)).kids.getD (A.length+1) 0=C.2.page:=qey.2;have aH:(inOf (A++e1::C::B)).keys.getD A.length []=C.1:=qiU;unfold joinM;rw[aF,aG,aH,s1];dsimp only;rw[if_neg (fun h=>h rfl),s2];dsimp only;rw[if_neg (fun h=>h rfl)];exact congrArg (fun N=>((N,(0:Int)),M2)) (qve (s:=⟨q,n1+n2,L1++L2,q::(E++G)⟩));rcases zD.1 u with u|u;exact aa b (.inl u);rcases zG.1 u with rfl|u;exact⟨aC,h2⟩;exact aa b (.inr u);have t1:Step D M M1 (e1.2.page::C.2.page::(E++G)) ([q]++C.2.page::(E++G)):=by
  have:=Q.beside (Z:=C.2.page::(E++G)) (fun x y=>J x (K x (zN _ y))) (by have p9:(e1.2.page::C.2.page::(E++G)).Perm ((C.2.page::(E++G))++[e1.2.page]):=(perm_append_singleton _ _).symm;exact p9.nodup_iff.1 af)
  exact this.perm (perm_append_singleton _ _) perm_append_comm
 have p8:([q]++C.2.page::(E++G)).Perm (([q]++(E++G))++[C.2.page]):=(by exact perm_middle.trans<|(perm_append_singleton _ _).symm);have t2:=an.beside (Z:=[q]++(E++G)) (fun x y=>t1.has x (by rcases zD.1 y with y|y;exact zH _ y;exact zI _ (zN _ y))) (p8.nodup_iff.1 t1.nodup);have t3:=(t1.perm (.refl _) p8).trans t2;rw[xF] at t3;have t4:=Step.part (D:=D) (a:=A.flatMap (·.2.pages)) (b:=B.flatMap (·.2.pages)) J ag (t3.perm pm.symm (.refl _));rw[qaH];exact t4
theorem SepE.swap{A B:List Ent}{e:Ent}{s:Seg}(h:SepE (A++e::B))(u:∀x∈s.prs,x∈e.2.prs):SepE (A++(e.1,s)::B):=
 h.put (key:=e.1) qaD (fun b y=>(h.mid.2 b y).1) fun x z=>.inr (u x z)
theorem treeCut(hc:CapsOk k v){key:Key}:∀(h:Nat) (M:PgM) (s:Seg),Has D M k v h s->M.Wf->M.over=false->s.pages.Nodup->key∈keysP s.prs->2*h<=M.free.length-> ∃N n M' R R',cutN D k v key (h+1) M s.page=((N,0),M')/\s.pages=s.page::R/\HasN D M' k v h N n (cutP key s.prs) R'/\Step D M M' R R'/\s.size<=n+1/\M.free.length<=M'.free.length+2*h
 | 0,M,s,hs,hW,ho,aI,ai,hf=>by
  obtain⟨N,R,hl,hN,hp,bN,_⟩:=hs.load;have bO:=hN;obtain⟨rfl,hn,rfl,hL,aJ,a9⟩:=hN;have aj:=qk6 aJ ai;have hm:=(qb8 aJ).2 ai;have hi:placeV (keysP s.prs) key<s.prs.length:=by
   have:=(zP.1 hm).1
   simpa using this
  have bE:(cutP key s.prs).length+1=s.prs.length:=(by rw[aj,zF,yK,yB];omega);refine⟨lfOf (cutP key s.prs),(cutP key s.prs).length,M,[],[],?_,hp,⟨rfl,rfl,rfl,fun x u=>hL x (qkw.1 u).1,qsG aJ,oJ⟩,Step.refl hW ho (fun x u=>nomatch u) .nil,oJ,oJ⟩;unfold cutN;rw[hl];dsimp only;rw[if_neg (fun h=>h rfl),if_pos (show (lfOf s.prs).leaf=true from rfl),if_pos (show (lfOf s.prs).keys[placeV (lfOf s.prs).keys key]?=some key from hm)];refine congrArg (fun N=>((N,(0:Int)),M)) ?_;rw[aj];unfold lfOf delAt;simp only[xJ,xL,xM]
 | h+1,M,⟨p,n,L,P⟩,⟨es,h0,h1,h2,h3,h4,h5,h6,h7⟩,hW,ho,aI,ai,hf=>by
  dsimp only at h1 h2 h3 h5 aI ai;subst h1 h2 h3;have hl:loadN D M k v p=(inOf es,0):=h4.load h5;have ak:=h4.right.innerTwo;obtain⟨A,e,B,O,hA,bp,bq,aL⟩:=qgZ (key:=key) h0 h6;have aM:(inOf es).kids.getD (kidV (inOf es).keys key) 0=e.2.page:=aL;have br:kidV (inOf es).keys key=A.length:=hA.symm;have bs:e∈es:=(by rw[O];simp);obtain⟨bt,bu⟩:=h7 e bs;have af:es.flatMap (·.2.pages)=A.flatMap (·.2.pages)++(e.2.pages++B.flatMap (·.2.pages)):=(by rw[O,qaH]);have aq:es.flatMap (·.2.prs)=A.flatMap (·.2.prs)++(e.2.prs++B.flatMap (·.2.prs)):=(by rw[O,qaH]);have av:∀z∈A.flatMap (·.2.pages)++(e.2.pages++B.flatMap (·.2.pages)),InUse M z:=fun z hz=>by rw[<- af] at hz;obtain⟨b,C,hz⟩:=yJ.1 hz;exact (h7 b C).1.used ho z hz
  have ae:(A.flatMap (·.2.pages)++(e.2.pages++B.flatMap (·.2.pages))).Nodup:=(by rw[<- af];exact (nodup_cons.1 aI).2);have al:e.2.pages.Nodup:=(yL.1 (yL.1 ae).2.1).1;have ar:=h6;rw[O] at ar;have aw:=ar.mid;have ba:∀x∈A.flatMap (·.2.prs),KLt x.1 key:=fun x u=>by obtain⟨a,ha,u⟩:=yJ.1 u;exact qbi (aw.1 a ha x u) bp
  have bb:∀x∈B.flatMap (·.2.prs),KLt key x.1:=fun x u=>by obtain⟨b,C,u⟩:=yJ.1 u;exact qbi (bq b C) ((aw.2 b C).2.2 x u)
  have aj:cutP key (es.flatMap (·.2.prs))=A.flatMap (·.2.prs)++(cutP key e.2.prs++B.flatMap (·.2.prs)):=(by rw[aq,qk5 ba,qjF bb]);have aN:key∈keysP e.2.prs:=by obtain⟨x,u,rfl⟩:=mem_map.1 ai;rw[aq] at u;rcases zD.1 u with u|u;exact absurd (ba x u) qaD;rcases zD.1 u with u|u;exact zY u;exact absurd (bb x u) qaD
  obtain⟨N1,n1,M1,Re,I,ec,aO,am,st,bT,bU⟩:=treeCut hc h M e.2 bt hW ho al aN oJ;rw[aO] at av ae al;have U:=KeysOk.of h4;have aG:e.2.page∉Re:=(nodup_cons.1 al).1;have aP:InUse M e.2.page:=av _ oL;have bw:Step D M M1 (e.2.page::Re) (e.2.page::I):=st.beside (Z:=[e.2.page]) (fun x u=>by rw[zE.1 u];exact aP) (oP al);have aQ:=Step.part av ae bw;have bc:InUse M1 e.2.page:=(st.rest _ aP aG).2.1;have aR:e.2.page∉I:=(st.rest _ aP aG).2.2;have E:∀b,b∈A\/b∈B->Has D M1 k v h b.2/\minOf k v h<=b.2.size:=fun b C=>by
   have aS:b∈es:=by rw[O];rcases C with C|C<;>simp[C]
   refine⟨(h7 b aS).1.frame fun x u=>?_,(h7 b aS).2⟩;have hd:=yL.1 ae;refine (st.rest x ((h7 b aS).1.used ho x u) fun hm=>?_).1;rcases C with C|C;exact hd.2.2 x (yJ.2 ⟨b,C,u⟩) x (zH _ (zN _ hm)) rfl;exact (yL.1 hd.2.1).2.2 x (zN _ hm) x (yJ.2 ⟨b,C,u⟩) rfl
  have a9:n1<=(if h=0 then (capsV k v).1 else (capsV k v).2):=by
   cases h with
   | zero=>exact am.2.2.2.2.2
   | succ h=>obtain⟨_,_,_,_,_,_,_,_,h9,_⟩:=am;exact h9
  have bV:=hc.min h;have ao:minOf k v h=(if h=0 then (capsV k v).1 else (capsV k v).2) / 2:=(by unfold minOf;split<;>rfl);have ax:SepE (A++(e.1,(⟨0,0,cutP key e.2.prs,[]⟩:Seg))::B):=ar.swap fun x u=>(qkw.1 u).1;have y:es.length=A.length+B.length+1:=(by rw[O];simp;omega);have aB:∀ {N:NodeM} {M2:PgM} {n R':_},HasN D M2 k v (h+1) N n (A.flatMap (·.2.prs)++(cutP key e.2.prs++B.flatMap (·.2.prs))) R'->HasN D M2 k v (h+1) N n (cutP key (es.flatMap (·.2.prs))) R':=fun h9=>by rw[aj];exact h9
  have au:∀ {M2:PgM} {R':List Int},Step D M1 M2 (A.flatMap (·.2.pages)++((e.2.page::I)++B.flatMap (·.2.pages))) R'->Step D M M2 (es.flatMap (·.2.pages)) R':=fun h9=>by rw[af,aO];exact aQ.trans h9
  have aH:lowN N1 k v↔n1<minOf k v h:=(by unfold lowN;rw[am.size,ao]);unfold cutN;rw[hl];dsimp only;rw[if_neg (fun h=>h rfl),if_neg (show ¬(inOf es).leaf=true from fun e=>nomatch e),aM,ec];dsimp only;rw[if_neg (fun h=>h rfl),br];by_cases hlw:lowN N1 k v;rw[if_neg (fun h=>h hlw)];have bW:=aH.1 hlw;have bf:n1+1=minOf k v h:=oJ;by_cases hA0:A.length>0;rw[if_pos hA0];obtain⟨A',f,rfl⟩:∃A' f,A=A'++[f]:=(by have bg:A≠[]:=length_pos_iff.1 hA0;exact⟨A.dropLast,A.getLast bg,(dropLast_concat_getLast bg).symm⟩);have bx:(A'++[f]).length-1=A'.length:=oL;rw[bx];have ay:=E f (.inl oL);obtain⟨Ny,Ry,aU,ap,aV,_,_⟩:=ay.1.load;have G:es=A'++f::e::B:=(by rw[O];simp);have bz:(A'++[f]).flatMap (·.2.pages)=A'.flatMap (·.2.pages)++f.2.pages:=(by simp[yP]);have bi:(A'++[f]).flatMap (·.2.prs)=A'.flatMap (·.2.prs)++f.2.prs:=(by simp[yP]);have V:(A'++[f]).flatMap (·.2.pages)++((e.2.page::I)++B.flatMap (·.2.pages))=A'.flatMap (·.2.pages)++(((f.2.page::Ry)++(e.2.page::I))++B.flatMap (·.2.pages)):=(by rw[bz,aV];simp only[zV]);have an:(A'++[f]).flatMap (·.2.prs)++(cutP key e.2.prs++B.flatMap (·.2.prs))=A'.flatMap (·.2.prs)++((f.2.prs++cutP key e.2.prs)++B.flatMap (·.2.prs)):=(by rw[bi];simp only[zV]);have az:SepE (A'++(f.1,(⟨0,0,f.2.prs,[]⟩:Seg))::(e.1,⟨0,0,cutP key e.2.prs,[]⟩)::B):=(by have h9:SepE (A'++f::((e.1,(⟨0,0,cutP key e.2.prs,[]⟩:Seg))::B)):=(oP ax);exact h9.swap (s:=⟨0,0,f.2.prs,[]⟩) fun x u=>u);have aa:=aQ;rw[V] at aa;have Hn:Nbrs D M1 k v h A' B f e Ny N1 f.2.size n1 f.2.prs (cutP key e.2.prs) Ry I:=
   ⟨st.wf,st.over,by rw[<- G];exact h0,by rw[<- G];exact U,az,by have:=ak.2;rw[y] at this;simp at this;omega,fun b C=>E b (C.imp (fun C=>by simp[C]) id),ap,am,aa.has,aa.nodup⟩
  have aX:(inOf es).kids.getD A'.length 0=f.2.page:=(by rw[G];exact qey.1);have J:spareN Ny k v↔minOf k v h<f.2.size:=(by unfold spareN;rw[ap.size,ao]);unfold evenM;rw[aX,aU];dsimp only;rw[if_neg (fun h=>h rfl),if_pos (show A'.length<(A'++[f]).length by simp),G];by_cases hsq:spareN Ny k v;rw[if_neg (fun h=>h hsq)];obtain⟨aY,aZ,a0,a1⟩:=Hn.mids;have a2:(inOf (A'++f::e::B)).keys.getD A'.length []=e.1:=qiU;rw[a2];obtain⟨N,M2,R,e2,ab,K,aD⟩:=qqF hc Hn (qvi hc ap am (J.1 hsq) bf aY aZ ⟨a0,a1⟩);rw[<- an] at ab;rw[<- V] at K;rw[<- G];exact⟨N,_,M2,_,R,by rw[G];exact e2,rfl,aB ab,au K,by rw[y];simp;omega,oJ⟩;rw[if_pos hsq];have bA:f.2.size<=minOf k v h:=Nat.le_of_not_lt fun h9=>hsq (J.2 h9);have a3:=ay.2;obtain⟨N,M2,R,e2,ab,K,aD⟩:=qm1 hc Hn;rw[<- an] at ab;rw[<- V] at K;rw[<- G];exact⟨N,_,M2,_,R,by rw[G];exact e2,rfl,aB ab,au K,by rw[y];simp;omega,oJ⟩;rw[if_neg hA0];obtain rfl:A=[]:=eq_nil_of_length_eq_zero oJ;obtain⟨f,B',rfl⟩:∃f B',B=f::B':=by
   cases B with
   | nil=>rw[y] at ak;simp at ak
   | cons f B'=>exact⟨f,B',rfl⟩
  have ay:=E f (.inr oL);obtain⟨Ny,Ry,aU,ap,aV,_,_⟩:=ay.1.load;have G:es=[]++e::f::B':=O;have V:([]:List Ent).flatMap (·.2.pages)++((e.2.page::I)++(f::B').flatMap (·.2.pages))=([]:List Ent).flatMap (·.2.pages)++(((e.2.page::I)++(f.2.page::Ry))++B'.flatMap (·.2.pages)):=by rw[yG,aV];simp only[zV]
  have an:([]:List Ent).flatMap (·.2.prs)++(cutP key e.2.prs++(f::B').flatMap (·.2.prs))=([]:List Ent).flatMap (·.2.prs)++((cutP key e.2.prs++f.2.prs)++B'.flatMap (·.2.prs)):=(by rw[yG];simp only[zV]);have az:SepE ([]++(e.1,(⟨0,0,cutP key e.2.prs,[]⟩:Seg))::(f.1,⟨0,0,f.2.prs,[]⟩)::B'):=(by have h9:SepE ([(e.1,(⟨0,0,cutP key e.2.prs,[]⟩:Seg))]++f::B'):=ax;exact h9.swap (s:=⟨0,0,f.2.prs,[]⟩) fun x u=>u);have aa:=aQ;rw[V] at aa;have Hn:Nbrs D M1 k v h [] B' e f N1 Ny n1 f.2.size (cutP key e.2.prs) f.2.prs I Ry:=
   ⟨st.wf,st.over,by rw[<- G];exact h0,by rw[<- G];exact U,az,by have:=ak.2;rw[y] at this;simp at this⊢;omega,fun b C=>E b (C.imp id fun C=>by simp[C]),am,ap,aa.has,aa.nodup⟩
  have aX:(inOf es).kids.getD (([]:List Ent).length+1) 0=f.2.page:=(by rw[G];exact qey.2);have J:spareN Ny k v↔minOf k v h<f.2.size:=(by unfold spareN;rw[ap.size,ao]);unfold evenM;rw[aX,aU];dsimp only;rw[if_neg (fun h=>h rfl),if_neg (show ¬([]:List Ent).length+1<([]:List Ent).length by simp),G];by_cases hsq:spareN Ny k v;rw[if_neg (fun h=>h hsq)];obtain⟨aY,aZ,a0,a1⟩:=Hn.mids;have a2:(inOf ([]++e::f::B')).keys.getD ([]:List Ent).length []=f.1:=qiU (A:=[]) (B:=B') (e1:=e);rw[a2];obtain⟨N,M2,R,e2,ab,K,aD⟩:=qqF hc Hn (qvR hc am ap bf (J.1 hsq) aY aZ ⟨a0,a1⟩);rw[<- an] at ab;rw[<- V] at K;rw[<- G];exact⟨N,_,M2,_,R,by rw[G];exact e2,rfl,aB ab,au K,by rw[y];simp,oJ⟩;rw[if_pos hsq];have bA:f.2.size<=minOf k v h:=Nat.le_of_not_lt fun h9=>hsq (J.2 h9);have a3:=ay.2;obtain⟨N,M2,R,e2,ab,K,aD⟩:=qm1 hc Hn;rw[<- an] at ab;rw[<- V] at K;rw[<- G];exact⟨N,_,M2,_,R,by rw[G];exact e2,rfl,aB ab,au K,by rw[y];simp,oJ⟩;rw[if_pos hlw];have a3:minOf k v h<=n1:=Nat.le_of_not_lt fun h9=>hlw (aH.2 h9);obtain⟨q,M2,e2,K,H2,aD⟩:=am.store st.wf st.over oJ bc aR oJ;rw[e2];have bB:Step D M M2 (e.2.page::Re) (q::I):=Step.kid (Q:=[q]) (fun z hz=>av z (zI _ (zH _ hz))) al st K;have bC:=Step.part av ae bB;have a4:SepE (A++(e.1,(⟨q,n1,cutP key e.2.prs,q::I⟩:Seg))::B):=ar.swap fun x u=>(qkw.1 u).1;have a5:((A++(e.1,(⟨q,n1,cutP key e.2.prs,q::I⟩:Seg))::B).map (·.1)).head?=some []:=(by rw[O] at h0;rw[xJ,xK] at h0⊢;exact h0);refine⟨inOf (A++(e.1,(⟨q,n1,cutP key e.2.prs,q::I⟩:Seg))::B),es.length,M2,_,A.flatMap (·.2.pages)++((q::I)++B.flatMap (·.2.pages)),?_,rfl,⟨_,a5,rfl,by rw[O];simp,by rw[qaH,aj],by rw[qaH],qku (by rw[<- O];exact U),a4,ak.2,fun b C=>?_⟩,by rw[af,aO];exact bC,by show es.length<=es.length+1;omega,oJ⟩;rw[O];exact congrArg (fun N=>((N,(0:Int)),M2)) (qvN (s:=⟨q,n1,cutP key e.2.prs,q::I⟩));have bj:∀b,b∈A\/b∈B->Has D M2 k v h b.2/\minOf k v h<=b.2.size:=fun b C=>by have h9:=E b C;refine⟨h9.1.frame fun x u=>(K.rest x (h9.1.used st.over x u) fun hm=>?_).1,h9.2⟩;have hd:=yL.1 ae;have bk:=zE.1 hm;rcases C with C|C;exact hd.2.2 x (yJ.2 ⟨b,C,u⟩) x (by rw[bk];simp) rfl;exact (yL.1 hd.2.1).2.2 x (by rw[bk];simp) x (yJ.2 ⟨b,C,u⟩) rfl
  rcases zD.1 C with C|C;exact bj b (.inl C);rcases zG.1 C with rfl|C;exact⟨H2,a3⟩;exact bj b (.inr C)
end
end
end
section
open Go Go.Pt List
open Go.IntKind (wrap)
open Classical
attribute [local irreducible] ld ldA ldV fld fldA newZ st new idx idxS idxA slc slcS slcP mkS chk nn call callV inv run runQ runU join loop held ext rng undefer s2a nxt ent IntKind.wrap
variable {e:Int×Int×List Int} {named pages:List Int}
theorem qwF{M:PgM}(u:M.Named)(x:Int):x∈M.all↔x∈M.named\/x∈M.deferred\/x∈M.lists:=by rw[u.mem x];simp only[PgM.all,zD];constructor;rintro (h|h|h|h);exact .inl (.inl h);exact .inr (.inl h);exact .inr (.inr h);exact .inl (.inr h);rintro ((h|h)|h|h);exact .inl h;exact .inr (.inr (.inr h));exact .inr (.inl h);exact .inr (.inr (.inl h))
theorem qkD{M:PgM}(u:planM M=some (pages,named))(x:Int):x∈pages\/x∈named↔x∈M.free\/x∈M.deferred\/x∈M.lists:=by
 obtain⟨k,z,y,rfl,rfl⟩:=qet u;rw[qbJ];have e:x∈M.free↔x∈M.free.take k\/x∈M.free.drop k:=by
  conv=>lhs;rw[<- xC k M.free]
  exact zD
 simp only[zD,e];constructor;rintro (h|(h|h)|h);exact .inl (.inl h);exact .inr (.inl h);exact .inr (.inr h);exact .inl (.inr h);rintro ((h|h)|h|h);exact .inl h;exact .inr (.inr h);exact .inr (.inl (.inl h));exact .inr (.inl (.inr h))
section
variable {D D':DiskM} {M:PgM} {pages named:List Int} {t:Int} {ov:Bool}
theorem qp5(h:M.Wf)(y:∀e∈M.fresh,view D' e.1=sealV e.1 e.2.1 e.2.2)(u:e∈M.fresh):openV e.1 (view D' e.1)=(e.2.1,e.2.2,0):=by have z:=h.keys e.1 (zY u);have A:=h.n4;rw[y e u];exact qfZ ⟨oJ,oJ⟩ (h.body e u).2.1
theorem qnn{x:Int}(y:M.over=false)(z:D.down=false)(u:2<=x/\x<D.size)(A:M.sup.2.getD 0 0=D.size)(h:x∉M.all):pagerReadM D M x=openV x (view D x):=by have C:look x M.fresh=none:=qa4.2 fun E=>h (zI _ (zI _ (zI _ E)));have G:usedV M x=true:=qdz.2 ⟨⟨u.1,by rw[A];exact u.2⟩,h⟩;have I:=qeu z (n:=x) ⟨oJ,u.2⟩;unfold pagerReadM;rw[if_neg (by rw[y];decide),C];dsimp only;rw[if_neg (by rw[G];decide),I,if_neg oL]
theorem qrY(h:M.over=false)(u:M.Wf)(y:e∈M.fresh):pagerReadM D M e.1=(e.2.1,e.2.2,0):=by obtain⟨i,hi⟩:=qdD u.keysNodup y;unfold pagerReadM;rw[if_neg (by rw[h];decide),hi]
end
theorem qqe{v v':Int->List Int}{s t:Sup}(h:newestV (v 0) (v 1)=(s,0))(E:t.1=s.1+1)(C:0<=s.1)(y:readSV (t.1%2) (v' (t.1%2))=(t,0))(z:v' (s.1%2)=v (s.1%2)):newestV (v' 0) (v' 1)=(t,0):=by rcases qo3 h with ⟨A,u,_⟩|⟨A,u,_⟩;have u:s.1%2=0:=(by rw[<- Int.tmod_eq_emod_of_nonneg C];exact u);have e:t.1%2=1:=oJ;rw[e] at y;rw[u] at z;rw[newestV,z,A,y,if_neg oL,if_pos (.inr ⟨rfl,by dsimp only;omega⟩)];have u:s.1%2=1:=(by rw[<- Int.tmod_eq_emod_of_nonneg C];exact u);have e:t.1%2=0:=oJ;rw[e] at y;rw[u] at z;rw[newestV,z,A,y,if_neg oL,if_neg oN]
theorem qo4(M:PgM)(pages named:List Int):(nextS M pages named).2.getD 0 0=M.sup.2.getD 0 0/\(nextS M pages named).2.getD 1 0=pages.headD 0/\(nextS M pages named).2.getD 2 0=wrap .u32 named.length:=⟨rfl,rfl,rfl⟩
theorem qtf{n:Int}(h:ListOk n named pages)(y:n<=4096):wrap .u32 (named.length:Int)=named.length:=by
 have:=qbK (qbI h.rises) h.nums
 refine qaS _ ?_;rcases this with u|u;omega;rw[u];exact⟨oM,oM⟩
theorem Opens.next{D D':DiskM}{M:PgM}(h:Opens D M.sup M.lists M.named)(C:M.Wf)(u:planM M=some (pages,named))(G:SupOk (nextS M pages named))(I:(nextS M pages named).1=M.sup.1+1)(J:0<=M.sup.1)(K:D'.down=false)(y:D'.size=D.size)(O:Listed D' named pages)(Q:view D' ((nextS M pages named).1%2)=sealV ((nextS M pages named).1%2) 1 (superB (nextS M pages named).1 (nextS M pages named).2))(R:view D' (M.sup.1%2)=view D (M.sup.1%2)):Opens D' (nextS M pages named) pages named:=by
 have E:=qbT C u;have z:=qo4 M pages named;have A:newestV (view D' 0) (view D' 1)=(nextS M pages named,0):=qqe (v:=view D) (v':=view D') h.newest I J (by rw[Q];exact G.read) R;exact {
  down:=K
  size:=by rw[y];exact h.size
  newest:=A
  blocks:=by rw[z.1,y];exact h.blocks
  list:=z.2.1
  free:=by rw[z.2.2];exact qtf E C.n4
  ok:=by rw[y,<- h.blocks];exact E
  listed:=O }
section
section
variable {w:World} {X:List Nat} {pb:Nat} {db:Option Addr} {F:List Nat} {M:PgM}
theorem qqw{K:Int->WP}(h:PagerAt w X pb db F M)(u:K M.sup.1 w):cW 26 [.pointer (pW pb)] [.one (.int .u64)] w K:=by obtain⟨fb,defb,mb,sl,sn,z,A,C,rfl,y⟩:=h;refine qiD ?_;unfold qeU;exact qae (qag y.cell M.sup.1 qph u)
end
end
end
section
open Go Go.Pt List
open Go.IntKind (wrap)
theorem Lim.new{n:Nat}(h:n<=4096):Lim (newM n) 0:=⟨qvE h,by simp[newM],by simp[newM]⟩
def pgs (n:Nat):List Int:=(allV n).take (needP (allV n).length)
def nums (n:Nat):List Int:=(allV n).drop (needP (allV n).length)
def madeM (n:Nat):PgM:=begunM (fmtSup n) (pgs n) (nums n) 1 false (nums n)
theorem qvB{n:Nat}(h:8<=n)(u:n<=4096):(madeM n).Wf:=by have e:(fmtSup n).2.getD 0 0=n:=(by show wrap .u32 (n:Int)=_;exact qaS _);exact qgP (by rw[e];exact qld) (by rw[e];omega) (qil h u).u32
structure Made (D:DiskM) (n:Nat):Prop where
 quiet:Quiet D
 size:D.size=n
 waits:D.waits=[]
 opens:Opens D (fmtSup n) (pgs n) (nums n)
 fmt:formatM (newM n)=(D,0)
 zero:view D 0=zs 512
end
section
open Go Go.Pt List
open Go.IntKind (wrap)
variable {db:Option Addr} {w:World}
theorem qvu{cl:List Cell}{b off:Nat}{cs:Array Value}{T:TypeId}{h:Nat×Nat}{K:HL cl->Prop}(u:w.heap[b]?=some (.cells cs T h))(x:HL cl)(y:(cs.toList.drop off).take cl.length=HL.mk cl x)(k:K x):Pt.ldA cl ⟨b,off,none⟩ w K:=
 ⟨x,qba u _ off 0 (by rw[HL.mk_length];exact y),k⟩
attribute [local irreducible] ld ldA ldV fld fldA newZ st new idx idxS idxA slc slcS slcP mkS chk nn call callV inv run runQ runU join loop held ext rng undefer s2a nxt ent IntKind.wrap
theorem PgX.setRoots{w':World}{X:List Nat}{pb:Nat}{M:PgM}{fb defb mb:Nat}{sl sn:Sl}{F1 F2:List Nat}{y:List (Int×Leaf)}{roots:List Int}(h:PgX w X pb db M fb defb mb sl sn F1 F2 y)(z:roots.length=24)(A:w'.heap[pb]?=some (.cells (pgCells db M.sup sl sn M.turn M.over fb defb mb roots) PGT (0,0)))(f:Fr [pb] w w'):PgX w' X pb db { M with roots:=roots } fb defb mb sl sn F1 F2 y where
 cell:=A
 free:=h.free.frame f fun b u=>by simpa using (h.sep.2.1 b u).1
 deferred:=h.deferred.frame f fun b u=>by simpa using (h.sep.2.2 b u).1
 map:=h.map.frame f (by simpa using fun e=>h.sep.1 e.symm)
 fresh:=h.fresh
 rows:=h.rows.frame (f.mono fun i hi _=>by rw[zE.1 hi];simp) fun b u=>.inl u
 xlt:=fun b u=>yC (h.xlt b u) f.size
 xsep:=h.xsep
 sep:=h.sep
 suplen:=h.suplen
 rootlen:=z
theorem qrS{sup:Sup}{sl sn:Sl}{turn:Int}{over:Bool}{fb defb mb:Nat}{roots:List Int}(C:sup.2.length=27)(I:roots.length=24){t:Nat}(J:t<8){h r1 y:Int}: splice (pgCells db sup sl sn turn over fb defb mb roots) (36+3*t) [.u h,.u r1,.u y]=pgCells db sup sl sn turn over fb defb mb (roots.take (3*t)++[h,r1,y]++roots.drop (3*t+3)):=by
 have z:roots=roots.take (3*t)++(roots.drop (3*t)).take 3++roots.drop (3*t+3):=by rw[zV,<- xB,xC,xC]
 have:=qa3 (A:=(.pointer db::supV sup.1 sup.2)++pgRest sl sn turn over fb defb mb++(roots.take (3*t)).map (Value.int .u32)) (X:=((roots.drop (3*t)).take 3).map (Value.int .u32)) (Y:=[.u h,.u r1,.u y]) (Z:=(roots.drop (3*t+3)).map (Value.int .u32)) (by rw[zK,yK,yB];show min 3 _=3;omega)
 have E:((.pointer db::supV sup.1 sup.2)++pgRest sl sn turn over fb defb mb++(roots.take (3*t)).map (Value.int .u32)).length=36+3*t:=(by rw[zF,zF,qaZ C,zK,yK];show 29+7+_=_;omega);rw[E] at this;unfold pgCells;have G:roots.map (Value.int .u32)=(roots.take (3*t)).map (Value.int .u32)++((roots.drop (3*t)).take 3).map (Value.int .u32)++(roots.drop (3*t+3)).map (Value.int .u32):=(by rw[<- xJ,<- xJ,<- z]);rw[G];simp only[xJ,xK,map_nil];simp only[zV] at this⊢;exact this
section
variable {w:World} {X:List Nat} {pb:Nat} {db:Option Addr} {F:List Nat} {M:PgM}
theorem qpR{t z r1 A:Int}{K:Int->WP}(h:PagerAt w X pb db F M)(hk:∀w',PagerAt w' X pb db F (setRootM M t z r1 A).2->Fr F w w'->K (setRootM M t z r1 A).1 w'): cW 19 [.pointer (pW pb),.i t,.agg #[.u z,.u r1,.u A]] [.one .i] w K:=by
 have h0:=h;obtain⟨fb,defb,mb,sl,sn,F1,F2,fs,rfl,E⟩:=h;refine qf0 ?_;unfold qc5;have C:∀ {e:Int} {w':World},setRootM M t z r1 A=(e,M)->Fr [] w w'->K e w':=by
  intro e w' he hf
  have:=hk w' (by rw[he];exact h0.frame0 hf) (hf.mono (fun b G=>by cases G))
  rw[he] at this;exact this
 refine oB (oE [] w) fun r w1 e1 R ho=>?_;have I:=E.frame0 R;refine qae (qag I.cell M.over (qcH E.suplen) ?_);refine qaa (fun y=>C (by rw[setRootM,if_pos y]) R) (fun y=>?_);have J:¬M.over=true:=(by rw[y];decide);refine qaf (fun b w'=>b=decide (t<0\/t>7)/\w'=w1) ?_ ?_;refine qaa (fun y=>⟨by rw[zZ (Or.inl (zC y))],rfl⟩) (fun y=>?_)
 have:=zB y
 refine⟨decide_eq_decide.2 ⟨fun h=>.inr oJ,fun h=>oJ⟩,rfl⟩;rintro b w2 ⟨rfl,rfl⟩;refine qaa (fun y=>C (by rw[setRootM,if_neg J,if_pos (zC y)]) R) (fun y=>?_);have hr:=zB y;obtain⟨n,rfl⟩:∃n:Nat,t=n:=⟨t.toNat,oJ⟩;have U:n<8:=oJ;have O:setRootM M n z r1 A=(0,{ M with roots:=M.roots.take (3*n)++[z,r1,A]++M.roots.drop (3*n+3) }):=(by rw[setRootM,if_neg J,if_neg hr,zJ]);have V:=ho.drew;have Q:=I.frame0 (Fr.refl [] w2).drew;refine oC V 0 rfl (z,r1,A) rfl<|qae<|qaP oJ ?_;simp only[Addr.add_mk,zJ];refine qdG Q.cell (pgCells db M.sup sl sn M.turn M.over fb defb mb (M.roots.take (3*n)++[z,r1,A]++M.roots.drop (3*n+3))) (by show splice _ (0+33+3+n*3) _=_;rw[show 0+33+3+n*3=36+3*n by omega];exact qrS E.suplen E.rootlen U) rfl (by rw[qmp E.suplen,E.rootlen];exact zL (show 0+33+3+n*3+3<=60 by omega) (zM 60)) fun w3 aa f3=>?_;have hl:(M.roots.take (3*n)++[z,r1,A]++M.roots.drop (3*n+3)).length=24:=by
  have:=E.rootlen
  simp only[zF,yK,yB,yH,length_nil];omega
 have:=hk w3 (by rw[O];exact⟨fb,defb,mb,sl,sn,F1,F2,fs,rfl,Q.setRoots hl aa f3⟩) ((R.drew.mono fun b G=>nomatch G).trans (f3.mono fun b G _=>by rw[zE.1 G];simp))
 rw[O] at this;exact this
def rootM (M:PgM) (t:Int):Int×Int×Int:=if t<0\/t>7 then (0,0,0) else (M.roots.getD (3*t.toNat) 0,M.roots.getD (3*t.toNat+1) 0,M.roots.getD (3*t.toNat+2) 0)
theorem qtX{t:Int}{K:Int×Int×Int->WP}(h:PagerAt w X pb db F M)(I:∀w',Fr [] w w'->K (rootM M t) w'): cW 10 [.pointer (pW pb),.i t] [.agg [.u,.u,.u]] w K:=by
 obtain⟨fb,defb,mb,sl,sn,F1,F2,fs,rfl,C⟩:=h;refine qhS ?_;unfold qei;refine oB (oE [] w) fun r O e1 Q J=>?_;have E:=C.frame0 Q;refine qaf (fun b w'=>b=decide (t<0\/t>7)/\w'=O) ?_ ?_;refine qaa (fun z=>⟨by rw[zZ (Or.inl (zC z))],rfl⟩) (fun z=>?_)
 have:=zB z
 refine⟨decide_eq_decide.2 ⟨fun h=>.inr oJ,fun h=>oJ⟩,rfl⟩;rintro b w2 ⟨rfl,rfl⟩;apply qaa<;>intro z;refine oD J 0 rfl #[.u 0,.u 0,.u 0] fun G y R=>oC y 0 rfl (0,0,0) rfl ?_
 have:=I G y.fr
 rw[rootM,if_pos (zC z)] at this;exact this;have U:=zB z;obtain⟨n,rfl⟩:∃n:Nat,t=n:=⟨t.toNat,oJ⟩;have V:n<8:=oJ;have aa:=C.rootlen;refine qae<|qaP oJ ?_;simp only[Addr.add_mk,zJ];have e3:((M.roots.map (Value.int .u32)).drop (3*n)).take 3=[.u (M.roots.getD (3*n) 0),.u (M.roots.getD (3*n+1) 0),.u (M.roots.getD (3*n+2) 0)]:=by rw[zX (by rw[zK];omega),zX (by rw[zK];omega),zX (by rw[zK];omega)];simp only[take_succ_cons,take_zero,getElem_map];rw[getElem_eq_getD 0,getElem_eq_getD 0,getElem_eq_getD 0]
 refine qvu E.cell (M.roots.getD (3*n) 0,M.roots.getD (3*n+1) 0,M.roots.getD (3*n+2) 0) ?_ ?_;have hd:=qhg (db:=db) (sup:=M.sup) (sl:=sl) (sn:=sn) (turn:=M.turn) (over:=M.over) (fb:=fb) (defb:=defb) (mb:=mb) (roots:=M.roots) C.suplen C.rootlen;have A:(pgCells db M.sup sl sn M.turn M.over fb defb mb M.roots).toList.drop 36=M.roots.map (Value.int .u32):=by
  rw[<- hd,zS]
  have:=qmp (db:=db) (sup:=M.sup) (sl:=sl) (sn:=sn) (turn:=M.turn) (over:=M.over) (fb:=fb) (defb:=defb) (mb:=mb) (roots:=M.roots) C.suplen
  rw[yB,Array.length_toList];omega
 rw[show 0+33+3+n*3=36+3*n by omega,<- xB,A];exact e3;refine oD J 0 rfl #[.u (M.roots.getD (3*n) 0),.u (M.roots.getD (3*n+1) 0),.u (M.roots.getD (3*n+2) 0)] fun G y R=>oC y 0 rfl (M.roots.getD (3*n) 0,M.roots.getD (3*n+1) 0,M.roots.getD (3*n+2) 0) rfl ?_
 have:=I G y.fr
 rw[rootM,if_neg U,zJ] at this;exact this
end
theorem qsp{dbk pb:Nat}{X FD F:List Nat}{D:DiskM}{M:PgM}{k:Nat}{n:Int}{K:Int×Sl×Int->WP}(R:DiskAt w dbk FD D)(J:Lim D k)(O:PagerAt w X pb (dbOf dbk M) F M)(hv:Hv w)(hn:U32 n)(hl:M.lists.length<=1000000)(hb:∀e∈M.fresh,e.2.2.length<=100000)(hk:∀s w',(∀G:List Nat,(∀b∈G,b<w.heap.size)->RdB G w' s (pagerReadM D M n).2.1)->Fr [] w w'->K ((pagerReadM D M n).1,s,(pagerReadM D M n).2.2) w'): cW 41 [.pointer (pW pb),.u n] [.one .b,.one .slice,.one .i] w K:=by
 have U:=O;obtain⟨fb,defb,mb,sl,sn,F1,F2,fs,rfl,Q⟩:=O;refine qhQ ?_;unfold qeg;have V:∀ {a:Int} {e:Int} {w':World},pagerReadM D M n=(a,[],e)->Fr [] w w'->K (a,⟨none,0,0⟩,e) w':=fun he f=>by
  have:=hk ⟨none,0,0⟩ _ (fun G hG=>by rw[he];exact .nil _ _ _ _) f
  rw[he] at this;exact this
 refine qae (qag Q.cell M.over (qcH Q.suplen) ?_);refine qaa (fun A=>V (by rw[pagerReadM,if_pos A]) (.refl _ _)) (fun A=>?_);have C:¬M.over=true:=(by rw[A];decide);have ak:dbOf dbk M=pW dbk:=if_neg C;refine qae ?_;simp only[Addr.add_mk];refine qag Q.cell (some mb) (qbA Q.suplen) ?_;have h:look n M.fresh=(look n fs).map fun q=>(q.1,q.2.1,q.2.2.2):=(by rw[Q.fresh];exact qb7 (fun e:Leaf=>(e.1,e.2.2)) n fs);refine qjb Q.map.at (fun q hq=>?_) (fun hq=>?_);rw[hq] at h;have h:look n M.fresh=some (q.1,q.2.1,q.2.2.2):=h;refine oB (oE [] w) fun r w1 e1 f1 ho=>oD ho 0 rfl #[.b q.2.1,q.2.2.1.v] fun w2 I f2=>?_;have E:=I.drew;refine cond_true rfl<|oA E 0 rfl q.2.1 rfl<|oA E 0 rfl q.2.2.1 rfl ?_;have am:=(qaY hq).2;have an:=Q.rows.bodies _ am;have ac:=(qaY h).2;refine qa0 (an.frame0 E.fr) (zL (hb _ ac) oM) fun s2 B2 w3 b2 f3 n2 _ _=>?_;have ad:=E.frame0 f3;refine qai (ad.cell 0 rfl rfl) ?_;have y:pagerReadM D M n=(q.2.1,q.2.2.2,0):=by rw[pagerReadM,if_neg C,h]
 have:=hk s2 w3 (fun G hG=>by rw[y];exact Buf.rds qas b2 fun b hb hm=>by have:=n2 b hb;have:=hG b hm;have:=E.fr.size;omega) ad.fr
 rw[y] at this;exact this;rw[hq] at h;have h:look n M.fresh=none:=h;refine oB (oE [] w) fun r w1 e1 f1 ho=>oD ho 0 rfl #[.b 0,.slice none 0 0] fun w2 I f2=>cond_false rfl<|qof (U.frame0 I.fr) hl fun w3 f3=>?_;have z:=I.fr.trans f3;have ae:=Q.frame0 z;apply qaa<;>intro A;have hu:usedV M n=false:=(oP A);exact V (by rw[pagerReadM,if_neg C,h];exact if_pos hu) z;have hu:¬usedV M n=false:=(oP A);rw[ak] at ae;refine qae (qag ae.cell (pW dbk) qrR ?_);rw[wi' n (by have:=hn.1;have:=hn.2;omega)];refine qgI (R.frame0 z) J.ok fun s5 B5 w5 b5 f5 n5=>?_;apply qaa<;>intro A;have he:(readV D n).2≠0:=(oP A);exact V (by rw[pagerReadM,if_neg C,h];exact (if_neg hu).trans (if_pos he)) (z.trans f5);have he:¬(readV D n).2≠0:=(oP A);have aq:=qbE J.ok n;refine qmn (b5.rds qas (S:=[]) oL) (hv.frame0 (z.trans f5)) aq.1 oJ fun s6 B6 w6 b6 f6 n6=>?_;have y:pagerReadM D M n=openV n (readV D n).1:=by rw[pagerReadM,if_neg C,h];exact (if_neg hu).trans (if_neg he)
 have:=hk s6 w6 (fun G hG=>by rw[y];exact Buf.rds qas b6 fun b hb hm=>by have:=n6 b hb;have:=hG b hm;have:=(z.trans f5).size;omega) ((z.trans f5).trans f6)
 rw[y] at this;exact this
end
section
open Go Go.Pt List
open Go.IntKind (wrap)
open Classical
variable {P:List Int} {t:Int}
def rootTo (t:Int) (s:(Int×Int)×PgM) (u h:Int):Int×PgM:=if s.1.2≠0 then (s.1.2,s.2) else setRootM s.2 t s.1.1 u h
noncomputable def growN (k v:Nat) (t:Int) (r:Int×Int×Int) (x:(Grown×Int)×PgM):Int×PgM:=
 if x.1.2≠0 then (x.1.2,x.2)
 else if x.1.1.other≠0 then rootTo t (storeN k v x.2 0 ⟨false,[x.1.1.key],[],[x.1.1.page,x.1.1.other]⟩) (if x.1.1.fresh then wrap .u32 (r.2.1+1) else r.2.1) (wrap .u32 (r.2.2+1))
 else setRootM x.2 t x.1.1.page (if x.1.1.fresh then wrap .u32 (r.2.1+1) else r.2.1) r.2.2
noncomputable def insertN (D:DiskM) (k v:Nat) (t:Int) (key val:Key) (f:Nat) (M:PgM):Int×PgM:=
 if (rootM M t).1=0 then rootTo t (storeN k v M 0 (lfOf [(key,val)])) 1 1 else growN k v t (rootM M t) (putN D k v key val f M (rootM M t).1)
noncomputable def shrinkN (k v:Nat) (t:Int) (r:Int×Int×Int) (x:(NodeM×Int)×PgM):Int×PgM:=
 if x.1.2≠0 then (x.1.2,x.2)
 else if x.1.1.leaf=true/\x.1.1.keys.length=0 then (if (dropV x.2 r.1).1≠0 then ((dropV x.2 r.1).1,(dropV x.2 r.1).2) else setRootM (dropV x.2 r.1).2 t 0 0 0)
 else if x.1.1.leaf=false/\x.1.1.kids.length=1 then (if (dropV x.2 r.1).1≠0 then ((dropV x.2 r.1).1,(dropV x.2 r.1).2) else setRootM (dropV x.2 r.1).2 t (x.1.1.kids.getD 0 0) (wrap .u32 (r.2.1-1)) (wrap .u32 (r.2.2-1)))
 else rootTo t (storeN k v x.2 r.1 x.1.1) (wrap .u32 (r.2.1-1)) r.2.2
noncomputable def removeN (D:DiskM) (k v:Nat) (t:Int) (key:Key) (f:Nat) (M:PgM):Int×PgM:=shrinkN k v t (rootM M t) (cutN D k v key f M (rootM M t).1)
def TreeIs (D:DiskM) (M:PgM) (k v:Nat) (t:Int) (L:Prs) (P:List Int):Prop:=
 (rootM M t=(0,0,0)/\L=[]/\P=[])\/∃h n p,p≠0/\rootM M t=(p,(L.length:Int),((h+1:Nat):Int))/\Has D M k v h ⟨p,n,L,P⟩
structure RStep (D:DiskM) (M M':PgM) (t:Int) (P P':List Int):Prop where
 step:Step D M { M' with roots:=M.roots } P P'
 wf:M'.Wf
 len:M'.roots.length=24
 others:∀ t':Int,t'≠t->rootM M' t'=rootM M t'
section
variable {D:DiskM} {M M':PgM} {k v:Nat}
theorem quM{a b c:Int}(G:0<=t/\t<8)(A:M.over=false)(I:M.roots.length=24):∃R,setRootM M t a b c=(0,{ M with roots:=R })/\R.length=24/\rootM { M with roots:=R } t=(a,b,c)/\(∀y:Int,y≠t->rootM { M with roots:=R } y=rootM M y)/\∀x∈R,x∈M.roots\/x=a\/x=b\/x=c:=by
 obtain⟨n,rfl⟩:∃n:Nat,t=n:=⟨t.toNat,oJ⟩;have J:n<8:=oJ;have e:setRootM M n a b c=(0,{ M with roots:=M.roots.take (3*n)++[a,b,c]++M.roots.drop (3*n+3) }):=by rw[setRootM,if_neg (by rw[A];decide),iN,zJ]
 have C:(M.roots.take (3*n)).length=3*n:=(by rw[yK];omega);have h:∀i,(M.roots.take (3*n)++[a,b,c]++M.roots.drop (3*n+3)).getD i 0=if i=3*n then a else if i=3*n+1 then b else if i=3*n+2 then c else M.roots.getD i 0:=fun i=>by rw[zV,yQ];by_cases h1:i<3*n;rw[yY oJ,xA,if_pos h1,iN,iN,iN,yQ];rw[yX oJ,C];by_cases h2:i=3*n;rw[if_pos h2,h2,Nat.sub_self];rfl;rw[if_neg h2];by_cases h3:i=3*n+1;rw[if_pos h3,h3,show 3*n+1-3*n=1 by omega];rfl;rw[if_neg h3];by_cases h4:i=3*n+2;rw[if_pos h4,h4,show 3*n+2-3*n=2 by omega];rfl;rw[if_neg h4,yX oO,yZ,yQ];congr 2;simp;omega
 refine⟨_,e,?_,?_,fun y z=>?_,fun x u=>?_⟩;simp only[zF,yK,yB,yH,length_nil];omega;rw[rootM,iN,zJ];dsimp only;rw[h,h,h,if_pos rfl,iN,if_pos rfl,iN,iN,if_pos rfl];unfold rootM;by_cases hr':y<0\/y>7;rw[if_pos hr',if_pos hr'];rw[if_neg hr',if_neg hr'];dsimp only;have E:y.toNat≠n:=fun e=>z oJ;rw[h,h,h,iN,iN,iN,iN,iN,iN,iN,iN,iN];rcases zD.1 u with u|u;rcases zD.1 u with u|u;exact .inl (yU u);simp only[zG,xT,or_false] at u;exact .inr u;exact .inl (yT u)
theorem qpK{R:List Int}(h:M.Wf)(u:∀x∈R,U32 x):({ M with roots:=R }:PgM).Wf:=⟨h.n4,h.u32,u,h.namedS,h.named,h.freeS,h.defS,h.nodup,h.range,h.body⟩
theorem Has.roots{h:Nat}{s:Seg}{R:List Int}(u:Has D M k v h s):Has D { M with roots:=R } k v h s:=u.frame fun x _=>rfl
theorem Step.root{P':List Int}{a b c:Int}(z:0<=t/\t<8)(A:M.roots.length=24)(h:Step D M M' P P')(C:U32 a)(E:U32 b)(G:U32 c): ∃R,setRootM M' t a b c=(0,{ M' with roots:=R })/\RStep D M { M' with roots:=R } t P P'/\rootM { M' with roots:=R } t=(a,b,c):=by obtain⟨R,e,I,J,K,O⟩:=quM (a:=a) (b:=b) (c:=c) z h.over (by rw[h.roots];exact A);refine⟨R,e,⟨?_,qpK h.wf fun x Q=>?_,I,fun U y=>?_⟩,J⟩;have V:({ M' with roots:=M.roots }:PgM)=M':=(by rw[<- h.roots]);show Step D M { M' with roots:=M.roots } P P';rw[V];exact h;rcases O x Q with u|u|u|u;exact h.wf.roots x u;rw[u];exact C;rw[u];exact E;rw[u];exact G;rw[K U y];unfold rootM;rw[h.roots]
theorem Has.counts:∀ {h:Nat} {s:Seg},Has D M k v h s->h+1<=s.prs.length/\s.pages.length+1<=2*s.prs.length
 | 0,s,y=>by have C:=length_pos_iff.2 y.ne;rw[y.1];simp;omega
 | h+1,s,⟨z,O,C,E,G,I,Q,R,J⟩=>by
  have K:=I.right.innerTwo.1;rw[E,G];have key:∀l:List Ent,(∀e∈l,Has D M k v h e.2)->l.length*(h+1)<=(l.flatMap (·.2.prs)).length/\(l.flatMap (·.2.pages)).length+l.length<=2*(l.flatMap (·.2.prs)).length:=by
   intro l;induction l with
   | nil=>intro _;exact⟨oL,oL⟩
   | cons a l ih=>
    intro A;have i:=ih fun e u=>A e (zN _ u);have j:=(A a oL).counts;rw[yG,yG,zF,zF,yH,xQ];omega
  have:=key z fun e u=>(J e u).1
  have U:2*(h+1)<=z.length*(h+1):=Nat.mul_le_mul_right _ K;rw[yH];omega
theorem qm0(hc:CapsOk k v){key val:Key}{L:Prs}(ht:0<=t/\t<8)(hk:key.length=k/\IsB key)(hv:val.length=v/\IsB val)(hT:TreeIs D M k v t L P)(hW:M.Wf)(ho:M.over=false)(hr:M.roots.length=24)(hn:P.Nodup)(hL:L.length<=1000000)(hf:2*(rootM M t).2.2.toNat+1<=M.free.length): ∃M' P',insertN D k v t key val (rootM M t).2.2.toNat M=(0,M')/\TreeIs D M' k v t (insP key val L) P'/\RStep D M M' t P P'/\M.free.length<=M'.free.length+(2*(rootM M t).2.2.toNat+1):=by
 have aU:=qdl (k:=k) (v:=v);rcases hT with ⟨e0,rfl,rfl⟩|⟨h,n,p,aG,er,hs⟩;unfold insertN;rw[e0,if_pos rfl];have aH:PrsOk k v [(key,val)]:=fun x hx=>by rw[zE.1 hx];exact⟨hk.1,hv.1,hk.2,hv.2⟩
 have U:=qgf (k:=k) (v:=v) aH (pairwise_singleton _ _) oL (by have:=hc.leaf;simp;omega);obtain⟨q,M1,e1,st,ab,hl,ac⟩:=qiQ (D:=D) hW ho U (fun e=>by rw[e] at hf;simp at hf);have hu:=st.has q oL;have hq:=qa9 st.wf hu;obtain⟨R,e2,rs,y⟩:=st.root (a:=q) (b:=1) (c:=1) ht hr ⟨oJ,hq.2⟩ ⟨oM,oM⟩ ⟨oM,oM⟩;refine⟨{ M1 with roots:=R },[q],?_,.inr ⟨0,1,q,ac,y,?_⟩,rs,by show M.free.length<=M1.free.length+_;omega⟩;unfold rootTo;rw[e1];dsimp only;rw[if_neg (fun h=>h rfl),e2]
 have:=qeO U ab
 exact this.roots;rw[er] at hf;have ak:(((h+1:Nat):Int)).toNat=h+1:=zJ _;dsimp only at hf;rw[ak] at hf;have al:=hs.counts;dsimp only at al;obtain⟨g,M1,eg,ok⟩:=treePut hc hk hv h M ⟨p,n,L,P⟩ hs hW ho hn (by
  have h9:=hs.load;obtain⟨N,R,_,U,_⟩:=h9;show n<=1000;cases h with
  | zero=>have:=U.2.2.2.2.2;dsimp only at this;omega
  | succ h=>obtain⟨_,_,_,_,_,_,_,_,h8,_⟩:=U;dsimp only at h8;omega) oJ
 have am:=ok.free;have z:=ok.fresh;dsimp only at eg z;have u:((insP key val L).length:Int)=if g.fresh then wrap .u32 ((L.length:Int)+1) else (L.length:Int):=by rw[z];by_cases hm:key∈keysP L;rw[zU (fun h=>h hm),if_neg oM,qb5 hs.sort hm];rw[zZ hm,if_pos rfl,qb4 hm,qaS _];omega
 have an:U32 (if g.fresh then wrap .u32 ((L.length:Int)+1) else (L.length:Int)):=by
  rw[<- u];have h1:(insP key val L).length<=L.length+1:=by by_cases hm:key∈keysP L;rw[qb5 (show SortP L from hs.sort) hm];omega;rw[qb4 hm];exact zM _
  exact⟨oJ,oJ⟩
 unfold insertN;rw[er,if_neg (show ¬p=0 from aG)];dsimp only;rw[ak,eg];unfold growN;dsimp only;rw[if_neg (fun h=>h rfl)];rcases ok.res with ⟨ae,n',P',hH,st,_⟩|⟨ae,n1,J,E,V,G,C,K,O,ao,aM,aN,ap,aq,aO,aP,st⟩;rw[if_neg (fun h=>h ae)];have hu:=hH.used st.over g.page hH.mem;have hq:=qa9 st.wf hu;obtain⟨R,e2,rs,y⟩:=st.root (a:=g.page) (b:=if g.fresh then wrap .u32 ((L.length:Int)+1) else (L.length:Int)) (c:=((h+1:Nat):Int)) ht hr ⟨oJ,hq.2⟩ an ⟨oJ,oJ⟩;rw[<- u] at y e2;refine⟨{ M1 with roots:=R },P',?_,.inr ⟨h,n',g.page,oJ,y,hH.roots⟩,rs,by show M.free.length<=M1.free.length+_;omega⟩;rw[<- u];exact e2;rw[if_pos ae];have a0:=qa9 st.wf (K.used st.over g.page K.mem);have a1:=qa9 st.wf (O.used st.over g.other O.mem);have ar:J≠[]:=K.ne;have au:G≠[]:=O.ne;have aa:SepE [([],(⟨g.page,n1,J,E⟩:Seg)),(g.key,⟨g.other,V,G,C⟩)]:=
  (SepE.cut2 (A:=[]) (B:=[]) (lo:=[]) (s:=⟨0,0,J++G,[]⟩) (s1:=⟨g.page,n1,J,E⟩) (s2:=⟨g.other,V,G,C⟩) (m:=g.key) (qmt fun x _=>qez _) rfl aM aN ar au)
 have hp:∀e∈[([],(⟨g.page,n1,J,E⟩:Seg)),(g.key,⟨g.other,V,G,C⟩)],Has D M1 k v h e.2/\minOf k v h<=e.2.size:=fun e I=>by simp only[zG,xT,or_false] at I;rcases I with rfl|rfl;exact⟨K,aO⟩;exact⟨O,aP⟩
 have aQ:KeysOk k [([],(⟨g.page,n1,J,E⟩:Seg)),(g.key,⟨g.other,V,G,C⟩)]:=fun e I=>by rw[zE.1 (show e∈[(g.key,(⟨g.other,V,G,C⟩:Seg))] from I)];exact⟨ap,aq⟩
 have U:=qdp st.wf st.over aQ aa oL (by have:=hc.inner;simp;omega) fun e I=>(hp e I).1;obtain⟨q,M2,e1,Q,ab,a2,ac⟩:=qiQ (D:=D) st.wf st.over U (fun e=>by rw[e] at am;simp at am;omega);have aw:∀e∈[([],(⟨g.page,n1,J,E⟩:Seg)),(g.key,⟨g.other,V,G,C⟩)],Has D M2 k v h e.2/\minOf k v h<=e.2.size:=fun e I=>
  ⟨(hp e I).1.frame fun x hx=>(Q.rest x ((hp e I).1.used st.over x hx) oL).1,(hp e I).2⟩
 have hI:=qcB (h:=h) rfl U ab aa aw;have ax:Step D M1 M2 (E++C) (q::(E++C)):=by
  have:=Q.beside (Z:=E++C) st.has (oP st.nodup)
  exact this.perm oL perm_append_comm
 have ay:=st.trans ax;have hq:=qa9 Q.wf (Q.has q oL);obtain⟨R,e2,rs,y⟩:=ay.root (a:=q) (b:=if g.fresh then wrap .u32 ((L.length:Int)+1) else (L.length:Int)) (c:=((h+1+1:Nat):Int)) ht hr ⟨oJ,hq.2⟩ an ⟨oJ,oJ⟩;have e3:storeN k v M1 0 ⟨false,[g.key],[],[g.page,g.other]⟩=((q,0),M2):=e1;have aR:wrap .u32 ((((h+1:Nat):Int))+1)=((h+1+1:Nat):Int):=(by rw[qaS _];omega);rw[<- u] at y e2;refine⟨{ M2 with roots:=R },q::(E++C),?_,.inr ⟨h+1,2,q,ac,y,?_⟩,rs,by show M.free.length<=M2.free.length+_;omega⟩;unfold rootTo;rw[e3,aR,<- u];dsimp only;rw[if_neg (fun h=>h rfl),e2];have h9:=hI.roots (R:=R);have e5:[([],(⟨g.page,n1,J,E⟩:Seg)),(g.key,⟨g.other,V,G,C⟩)].flatMap (·.2.prs)=insP key val L:=(by rw[<- ao];simp);have e6:[([],(⟨g.page,n1,J,E⟩:Seg)),(g.key,⟨g.other,V,G,C⟩)].flatMap (·.2.pages)=E++C:=oL;rw[e5,e6] at h9;exact h9
theorem qnq(hc:CapsOk k v){key:Key}{L:Prs}(ht:0<=t/\t<8)(hT:TreeIs D M k v t L P)(C:key∈keysP L)(hW:M.Wf)(ho:M.over=false)(hr:M.roots.length=24)(hn:P.Nodup)(hL:L.length<=1000000)(hf:2*(rootM M t).2.2.toNat+1<=M.free.length): ∃M' P',removeN D k v t key (rootM M t).2.2.toNat M=(0,M')/\TreeIs D M' k v t (cutP key L) P'/\RStep D M M' t P P'/\M.free.length<=M'.free.length+(2*(rootM M t).2.2.toNat+1):=by
 rcases hT with ⟨e0,rfl,rfl⟩|⟨h,n,p,aV,er,hs⟩;cases C;rw[er] at hf;have al:(((h+1:Nat):Int)).toNat=h+1:=zJ _;dsimp only at hf;rw[al] at hf;have am:=hs.counts;dsimp only at am;obtain⟨N,m,M1,R,R',ec,hP,hN,st,aC,aW⟩:=treeCut hc h M ⟨p,n,L,P⟩ hs hW ho hn C oJ;dsimp only at ec hP;subst hP;have A:=hs.sort;dsimp only at A;have aP:(cutP key L).length+1=L.length:=by
  have hm:=(qb8 A).2 C;have hi:placeV (keysP L) key<L.length:=by
   have:=(zP.1 hm).1
   simpa using this
  rw[qk6 A C,zF,yK,yB];omega
 have aD:wrap .u32 ((L.length:Int)-1)=((cutP key L).length:Int):=(by rw[qaS _];omega);have ae:U32 ((cutP key L).length:Int):=⟨oJ,oJ⟩;have af:InUse M p:=hs.used ho p oL;have an:p∉R:=(nodup_cons.1 hn).1;have E:=(st.rest p af an).2.1;have G:=(st.rest p af an).2.2;have ag:Step D M M1 (p::R) (p::R'):=st.beside (Z:=[p]) (fun x hx=>by rw[zE.1 hx];exact af) (oP hn);unfold removeN;rw[er];dsimp only;rw[al,ec];unfold shrinkN;dsimp only;rw[if_neg (fun h=>h rfl),aD];have ab:∀ {a b c:Int},U32 a->U32 b->U32 c->∃u I,dropV M1 p=(0,u)/\setRootM u t a b c=(0,{ u with roots:=I })/\RStep D M { u with roots:=I } t (p::R) R'/\rootM { u with roots:=I } t=(a,b,c)/\M1.free.length<=u.free.length/\∀x∈R',pagerReadM D u x=pagerReadM D M1 x:=fun ha hb aE=>by
  obtain⟨u,O,y,J⟩:=qmS (D:=D) st.wf st.over E;have h9:=y.beside (Z:=R') (fun x hx=>st.has x hx) (by
   have:=ag.nodup
   exact (perm_append_singleton p R').nodup_iff.2 this)
  rw[xF] at h9;have h8:=(ag.perm (.refl _) (perm_append_singleton p R').symm).trans h9;obtain⟨I,U,V,z⟩:=h8.root (t:=t) ht hr ha hb aE;exact⟨u,I,O,U,V,z,J,fun x hx=>(y.rest x (st.has x hx) (fun hm=>G (by rw[<- zE.1 hm];exact hx))).1⟩
 cases h with
 | zero=>
  have ah:=hN;have aF:R=[]:=(List.cons.inj (show p::R=[p] from hs.1)).2;subst aF;obtain⟨rfl,hm,rfl,a0,aG,ao⟩:=hN;dsimp only at hm;have K:(lfOf (cutP key L)).keys.length=(cutP key L).length:=zK _;by_cases hz:(cutP key L).length=0;rw[if_pos ⟨rfl,by rw[K];exact hz⟩];have ap:cutP key L=[]:=eq_nil_of_length_eq_zero hz;obtain⟨u,I,O,U,V,z,J,_⟩:=ab (a:=0) (b:=0) (c:=0) ⟨oM,oM⟩ ⟨oM,oM⟩ ⟨oM,oM⟩;rw[O];dsimp only;rw[if_neg (fun h=>h rfl),U];exact⟨_,[],rfl,.inl ⟨z,ap,rfl⟩,V,by show M.free.length<=u.free.length+_;omega⟩;rw[if_neg (fun h=>hz (by rw[<- K];exact h.2)),if_neg (fun h=>nomatch h.1)];obtain⟨q,u,O,y,H2,J⟩:=ah.store st.wf st.over (show 1<=m by omega) E G oJ;have ai:Step D M u [p] [q]:=ag.trans y;have hq:=qa9 y.wf (y.has q oL);obtain⟨I,U,V,z⟩:=ai.root (a:=q) (b:=((cutP key L).length:Int)) (c:=((0+1:Nat):Int)) ht hr ⟨oJ,hq.2⟩ ae ⟨oM,oM⟩;refine⟨{ u with roots:=I },[q],?_,.inr ⟨0,m,q,oJ,z,H2.roots⟩,V,by show M.free.length<=u.free.length+_;omega⟩;unfold rootTo;rw[O];dsimp only;rw[if_neg (fun h=>h rfl),U]
 | succ h=>
  have ah:=hN;obtain⟨es,hh,rfl,hm,aI,rfl,hk,aG,ao,hp⟩:=hN;have K:(inOf es).kids.length=es.length:=(by show (es.map _).length=_;rw[zK]);have aR:2<=n:=by
   obtain⟨a2,_,g1,_,_,g4,_⟩:=hs
   have:=g4.right.innerTwo
   dsimp only at g1;omega
  dsimp only at aC;rw[if_neg (fun h=>nomatch h.1)];by_cases h1:es.length=1;rw[if_pos ⟨rfl,by rw[K];exact h1⟩];obtain⟨e,rfl⟩:∃e,es=[e]:=by
   match es,h1 with
   | [e],_=>exact⟨e,rfl⟩
  have ar:(inOf [e]).kids.getD 0 0=e.2.page:=rfl;rw[ar];have he:=(hp e oL).1;have hq:=qa9 st.wf (he.used st.over e.2.page he.mem);have aK:wrap .u32 ((((h+1+1:Nat):Int))-1)=((h+1:Nat):Int):=(by rw[qaS _];omega);rw[aK];obtain⟨u,I,O,U,V,z,J,aL⟩:=ab (a:=e.2.page) (b:=((cutP key L).length:Int)) (c:=((h+1:Nat):Int)) ⟨oJ,hq.2⟩ ae ⟨oJ,oJ⟩;rw[O];dsimp only;rw[if_neg (fun h=>h rfl),U];have au:cutP key L=e.2.prs:=(by rw[aI];simp);have av:[e].flatMap (·.2.pages)=e.2.pages:=oL;refine⟨_,_,rfl,.inr ⟨h,e.2.size,e.2.page,oJ,z,?_⟩,V,by show M.free.length<=u.free.length+_;omega⟩;rw[au,av];exact (he.frame fun x hx=>aL x (by rw[av];exact hx)).roots;rw[if_neg (fun h=>h1 (by rw[<- K];exact h.2))];have h2:2<=m:=oJ;obtain⟨q,u,O,y,H2,J⟩:=ah.store st.wf st.over (show 2<=m from h2) E G oJ;have ai:Step D M u (p::R) ([q]++es.flatMap (·.2.pages)):=Step.kid (Q:=[q]) (hs.used ho) hn st y;have hq:=qa9 y.wf (y.has q oL);obtain⟨I,U,V,z⟩:=ai.root (a:=q) (b:=((cutP key L).length:Int)) (c:=((h+1+1:Nat):Int)) ht hr ⟨oJ,hq.2⟩ ae ⟨oJ,oJ⟩;refine⟨{ u with roots:=I },[q]++es.flatMap (·.2.pages),?_,.inr ⟨h+1,m,q,oJ,z,H2.roots⟩,V,by show M.free.length<=u.free.length+_;omega⟩;unfold rootTo;rw[O];dsimp only;rw[if_neg (fun h=>h rfl),U]
end
section
theorem ql0{D:DiskM}{M:PgM}{k v:Nat}{L:Prs}(y:TreeIs D M k v t L P):(rootM M t).2.2.toNat<=L.length/\P.length<=2*L.length/\(rootM M t).2.1=L.length/\0<=(rootM M t).2.2:=by
 rcases y with ⟨u,rfl,rfl⟩|⟨h,n,p,A,u,z⟩;rw[u];exact⟨zM _,zM _,rfl,Int.le_refl _⟩
 have:=z.counts
 dsimp only at this;rw[u];dsimp only;rw[zJ];omega
theorem TreeIs.sort{D:DiskM}{M:PgM}{k v:Nat}{t:Int}{L:Prs}{P:List Int}(y:TreeIs D M k v t L P):SortP L/\PrsOk k v L:=by rcases y with ⟨_,rfl,_⟩|⟨h,n,p,A,C,u⟩;exact⟨.nil,fun x z=>nomatch z⟩;exact⟨u.sort,u.prsOk⟩
theorem qvQ(h:good t):∃k v:Nat,shp t=((k:Int),(v:Int))/\CapsOk k v/\1<=k/\k<=24/\1<=v/\v<=108:=by obtain⟨u,y⟩:=h;have:t=0\/t=1\/t=2\/t=3\/t=4\/t=5\/t=6\/t=7:=oJ;rcases this with rfl|rfl|rfl|rfl|rfl|rfl|rfl|rfl;exact⟨16,88,rfl,⟨oM,oM⟩,oM,oM,oM,oM⟩;exact⟨16,108,rfl,⟨oM,oM⟩,oM,oM,oM,oM⟩;exact⟨16,1,rfl,⟨oM,oM⟩,oM,oM,oM,oM⟩;exact⟨16,16,rfl,⟨oM,oM⟩,oM,oM,oM,oM⟩;exact⟨24,16,rfl,⟨oM,oM⟩,oM,oM,oM,oM⟩;exact⟨24,16,rfl,⟨oM,oM⟩,oM,oM,oM,oM⟩;exact⟨24,65,rfl,⟨oM,oM⟩,oM,oM,oM,oM⟩;exact⟨1,8,rfl,⟨oM,oM⟩,oM,oM,oM,oM⟩
structure Sole (D:DiskM) (M:PgM) (k v c:Nat) (t:Int) (L:Prs) (P:List Int):Prop where
 tree:TreeIs D M k v t L P
 wf:M.Wf
 over:M.over=false
 len:M.roots.length=24
 nodup:P.Nodup
 named:M.Named
 many:M.named.length=c
 use:∀ x,InUse M x->x∈P
section
variable {D:DiskM} {M M':PgM} {k v c:Nat} {t:Int} {L L':Prs} {P P':List Int}
end
theorem qtE{D:DiskM}{n k v:Nat}(K:0<=t/\t<8)(O:8<=n)(Q:n<=4096)(G:(madeM n).Wf):Sole D (madeM n) k v ((n-2)-needP (n-2)) t [] []:=by
 have C:(madeM n).roots=zs 24:=rfl;have u:(zs 24).length=24:=(by simp[zs]);have z:∀i,(zs 24).getD i 0=0:=fun i=>by rw[yQ];unfold zs;rw[List.getElem?_replicate];split<;>rfl
 refine⟨.inl ⟨?_,rfl,rfl⟩,G,rfl,by rw[C];exact u,.nil,qfR _ _ _ _ _,?_,fun x y=>?_⟩;unfold rootM;split;rfl;rw[C,z,z,z];show (nums n).length=_;unfold nums;rw[yB,qgL];rcases y with y|y;cases y;obtain⟨I,E,J,A,R,_⟩:=qaw.1 y;have e:(madeM n).sup.2.getD 0 0=n:=(by show wrap .u32 (n:Int)=_;exact qaS _);rw[e] at E;have h:=qgM.2 ⟨I,E⟩;rw[<- xC (needP (allV n).length) (allV n)] at h;rcases zD.1 h with h|h;exact absurd h J;exact absurd h A
end
section
section
variable {D:DiskM} {M M':PgM} {k v c:Nat} {t:Int} {L L':Prs} {P P':List Int}
end
end
section
section
variable {D D':DiskM} {M M':PgM} {k v:Nat} {t:Int} {L:Prs} {P:List Int}
theorem Has.frameD:∀ {h:Nat} {s:Seg},Has D M k v h s->(∀x∈s.pages,pagerReadM D' M' x=pagerReadM D M x)->Has D' M' k v h s
 | 0,s,⟨y,A,u,C⟩,z=>⟨y,A,u,by rw[z s.page (by rw[y];simp)];exact C⟩
 | h+1,s,⟨I,J,y,A,u,C,K,O,G⟩,z=>⟨I,J,y,A,u,C,by rw[z s.page (by rw[u];simp)];exact K,O,fun e E=>⟨(G e E).1.frameD fun x Q=>z x (by rw[u];exact zN _ (yJ.2 ⟨e,E,Q⟩)),(G e E).2⟩⟩
structure Calm (D:DiskM) (M:PgM) (b q:Nat):Prop where
 quiet:Quiet D
 waits:D.waits=[]
 size:D.size=b
 blocks:M.sup.2.getD 0 0=b
 b8:8<=b
 wf:M.Wf
 named:M.Named
 over:M.over=false
 len:M.roots.length=24
 seq:0<=M.sup.1/\M.sup.1<=q
 turn:0<=M.turn/\M.turn<=q
structure Kept (D:DiskM) (M:PgM) (D':DiskM) (M':PgM):Prop where
 roots:M'.roots=M.roots
 use:∀ x,InUse M' x↔InUse M x
 read:∀ x,InUse M x->pagerReadM D' M' x=pagerReadM D M x
end
end
end
section
open Go Go.Pt List
open Go.IntKind (wrap)
attribute [local irreducible] ld ldA ldV fld fldA newZ st new idx idxS idxA slc slcS slcP mkS chk nn call callV inv run runQ runU join loop held ext rng undefer s2a nxt ent IntKind.wrap
variable {B F':List Nat} {K:Int->WP} {a:Addr} {body:List Int} {cs:Array Value} {i:Nat} {ii:Int} {l:List Key} {s:Sl} {w:World}
theorem qe3{α:Type}{p:α->Bool}:∀ {l:List α} {r:Nat},r<=l.length->(∀(i:Nat) a,i<r->l[i]?=some a->p a=true)->(∀a,l[r]?=some a->p a=false)->(l.takeWhile p).length=r
 | [],r,h,_,_=>by simp at h;simp[h]
 | x::l,0,h,_,u=>by
  have:=u x rfl
  rw[takeWhile_cons,this];rfl
 | x::l,r+1,h,z,u=>by
  have A:=z 0 x (Nat.succ_pos r) rfl
  have:=qe3 (p:=p) (l:=l) (r:=r) (oP h) (fun i a hi y=>z (i+1) a oJ (oP y)) (fun a y=>u a (oP y))
  rw[takeWhile_cons,A];simp[this]
theorem qvt{k:Key}{r:Nat}(y:r<=l.length)(z:∀(i:Nat) a,i<r->l[i]?=some a->KLe a k)(A:∀a,l[r]?=some a->KLt k a):kidV l k=r:=
 qe3 y (fun i a hi u=>zZ (z i a hi u)) fun a u=>zU fun h=>h (A a u)
theorem qtk{k:Key}{r:Nat}(u:r<=l.length)(y:∀(i:Nat) a,i<r->l[i]?=some a->KLt a k)(z:∀a,l[r]?=some a->KLe k a):placeV l k=r:=
 qe3 u (fun i a hi h=>zZ (y i a hi h)) fun a h=>zU (z a h)
theorem qiH(h:Rising l){j:Nat}{a b:Key}(u:i<j)(y:l[i]?=some a)(z:l[j]?=some b):KLt a b:=by obtain⟨hi,rfl⟩:=zP.1 y;obtain⟨A,rfl⟩:=zP.1 z;exact pairwise_iff_getElem.1 h i j hi A u
abbrev NdC:=Bool×Sl×Sl×Sl
def ndV (x:NdC):Array Value:=#[.bool x.1,x.2.1.v,x.2.2.1.v,x.2.2.2.v]
def zeroX:NdC:=(false,⟨none,0,0⟩,⟨none,0,0⟩,⟨none,0,0⟩)
def NB (n:NodeM):Prop:=(∀a∈n.keys,IsB a)/\(∀a∈n.vals,IsB a)/\∀x∈n.kids,U32 x
def NodeR (S:List Nat) (w:World) (x:NdC) (n:NodeM):Prop:=
 x.1=n.leaf/\NB n/\(∃pk,RdK S w x.2.1 pk/\keyP pk=n.keys)/\(∃pv,RdK S w x.2.2.1 pv/\keyP pv=n.vals)/\Rds encU 1 S w x.2.2.2 n.kids
def BufK (Z:List Nat) (w:World) (s:Sl) (l:List Key) (B:List Nat):Prop:=∃pk:Kps,Buf encSl 1 w s (slsP pk) B/\keyP pk=l/\∀p∈pk,RdB Z w p.1 p.2
def NodeB (Z:List Nat) (w:World) (x:NdC) (n:NodeM) (B:List Nat):Prop:=
 x.1=n.leaf/\NB n/\∃Bk h u,B=Bk++(h++u)/\B.Nodup/\BufK Z w x.2.1 n.keys Bk/\BufK Z w x.2.2.1 n.vals h/\Buf encU 1 w x.2.2.2 n.kids u
theorem BufK.nil(Z:List Nat)(w:World):BufK Z w ⟨none,0,0⟩ [] []:=⟨[],.nil _ _ _,rfl,fun p h=>nomatch h⟩
theorem NodeB.zero(Z:List Nat)(w:World):NodeB Z w zeroX zeroN []:=⟨rfl,⟨fun _ h=>(nomatch h),fun _ h=>(nomatch h),fun _ h=>(nomatch h)⟩,[],[],[],rfl,nodup_nil,.nil _ _,.nil _ _,.nil _ _ _⟩
section
variable {Z Z' S:List Nat} {w w':World} {s:Sl} {l:List Key} {B:List Nat} {x:NdC} {n:NodeM}
theorem BufK.lt(h:BufK Z w s l B):∀b∈B,b<w.heap.size:=by obtain⟨pk,u,rfl,_⟩:=h;exact u.lt
theorem BufK.frame(h:BufK Z w s l B)(f:Fr S w w')(u:∀b∈B,b∉S)(y:∀b∈S,b∈Z\/w.heap.size<=b)(z:∀b∈Z',b∈Z\/w.heap.size<=b):BufK Z' w' s l B:=by obtain⟨pk,A,C,E⟩:=h;exact⟨pk,A.frame f u,C,fun p G=>(E p G).frame (f.mono fun i hi I=>(y i hi).elim id fun h=>absurd I oJ) z⟩
theorem BufK.frame0(h:BufK Z w s l B)(f:Fr [] w w'):BufK Z w' s l B:=h.frame f (fun _ _ h=>nomatch h) (fun _ h=>nomatch h) fun _ h=>.inl h
theorem NodeB.lt(h:NodeB Z w x n B):∀b∈B,b<w.heap.size:=by obtain⟨_,_,Bk,C,E,rfl,_,y,z,A⟩:=h;intro b u;rcases zD.1 u with u|u;exact y.lt b u;rcases zD.1 u with u|u;exact z.lt b u;exact A.lt b u
theorem NodeB.frame(h:NodeB Z w x n B)(f:Fr S w w')(y:∀b∈B,b∉S)(z:∀b∈S,b∈Z\/w.heap.size<=b)(A:∀b∈Z',b∈Z\/w.heap.size<=b):NodeB Z' w' x n B:=by obtain⟨C,u,Bk,E,G,rfl,I,J,K,O⟩:=h;exact⟨C,u,Bk,E,G,rfl,I,J.frame f (fun b u=>y b (by simp[u])) z A,K.frame f (fun b u=>y b (by simp[u])) z A,O.frame f fun b u=>y b (by simp[u])⟩
theorem NodeB.frame0(h:NodeB Z w x n B)(f:Fr [] w w'):NodeB Z w' x n B:=h.frame f (fun _ _ h=>nomatch h) (fun _ h=>nomatch h) fun _ h=>.inl h
theorem NodeB.weak(h:NodeB Z w x n B)(u:∀b∈Z',b∈Z\/w.heap.size<=b):NodeB Z' w x n B:=h.frame (.refl [] _) (fun _ _ h=>nomatch h) (fun _ h=>nomatch h) u
theorem BufK.rd(h:BufK Z w s l B)(u:∀b∈B,b∉S)(y:∀b∈S,b∈Z\/w.heap.size<=b):∃pk,RdK S w s pk/\keyP pk=l:=by obtain⟨pk,z,A,C⟩:=h;exact⟨pk,⟨z.rds qcA u,fun p E=>(C p E).frame (.refl _ _) y⟩,A⟩
theorem NodeB.rd(h:NodeB Z w x n B)(y:∀b∈B,b∉S)(z:∀b∈S,b∈Z\/w.heap.size<=b):NodeR S w x n:=by obtain⟨A,u,Bk,I,J,rfl,K,C,E,G⟩:=h;exact⟨A,u,C.rd (fun b u=>y b (by simp[u])) z,E.rd (fun b u=>y b (by simp[u])) z,G.rds (fun _=>rfl) fun b u=>y b (by simp[u])⟩
theorem NodeR.frame{S':List Nat}(h:NodeR S w x n)(f:Fr S w w')(u:∀b∈S',b∈S\/w.heap.size<=b):NodeR S' w' x n:=by obtain⟨y,z,⟨pk,A,C⟩,⟨pv,E,G⟩,I⟩:=h;exact⟨y,z,⟨pk,A.frame f u,C⟩,⟨pv,E.frame f u,G⟩,I.frame f u⟩
theorem NodeR.frame0(h:NodeR S w x n)(f:Fr [] w w'):NodeR S w' x n:=h.frame (f.mono fun b u=>nomatch u) fun b u=>.inl u
theorem NodeR.weak{S':List Nat}(h:NodeR S w x n)(u:∀b∈S',b∈S\/w.heap.size<=b):NodeR S' w x n:=h.frame (.refl _ _) u
end
theorem qiI:∀ {l:List Key},(∀(i:Nat) a b,l[i]?=some a->l[i+1]?=some b->KLt a b)->Rising l
 | [],_=>.nil
 | [x],_=>pairwise_singleton _ _
 | x::y::r,h=>by have ih:Rising (y::r):=qiI fun i a b u A=>h (i+1) a b (oP u) (oP A);have z:KLt x y:=h 0 x y rfl rfl;refine yI.2 ⟨fun a u=>?_,ih⟩;rcases zG.1 u with rfl|u;exact z;exact qaA z (qbr ih a u)
theorem qfz{α:Type}{l:List α}{x y:α}(h:y∈insAt l i x):y=x\/y∈l:=by unfold insAt at h;simp only[zD,zE] at h;rcases h with (h|h)|h;exact .inr (yU h);exact .inl h;exact .inr (yT h)
theorem qis{k v:Nat}:∀(c:Nat) {b:List Int},IsB b->(∀a∈(leafR k v c b).1,IsB a)/\∀a∈(leafR k v c b).2,IsB a
 | 0,_,_=>⟨fun _ h=>(nomatch h),fun _ h=>(nomatch h)⟩
 | c+1,b,h=>by have ih:=qis (k:=k) (v:=v) c (b:=b.drop (k+v)) (h.drop _);refine⟨fun a u=>?_,fun a u=>?_⟩;rcases zG.1 u with rfl|u;exact h.take _;exact ih.1 a u;rcases zG.1 u with rfl|u;exact (h.drop _).take _;exact ih.2 a u
theorem qm2{k:Nat}:∀(c:Nat) {b:List Int},IsB b->∀a∈keysR k c b,IsB a
 | 0,_,_=>fun _ h=>(nomatch h)
 | c+1,b,h=>fun a u=>by rcases zG.1 u with rfl|u;exact h.take _;exact qm2 c (h.drop _) a u
theorem qlj:∃i,prog.info? 27=some i/\i.zero=some (.slice none 0 0)/\i.size=1/\i.bytes=24:=qi7 oK
abbrev elSl (s:Sl):Value:=s.v
abbrev elU (n:Int):Value:=.u n
theorem qi8{α:Type}(e:α->Value)(l:List α)(i:Nat)(x:α):(l.take i++[x]++l.drop i).map e=(l.map e).take i++[e x]++(l.map e).drop i:=by rw[xJ,xJ,xL,xM];rfl
theorem qqH{α:Type}(e:α->Value)(l:List α)(i:Nat):(l.take i++l.drop (i+1)).map e=(l.map e).take i++(l.map e).drop (i+1):=by rw[xJ,xL,xM]
theorem qeD{len cap:Nat}{hi:Int}{u:Nat}{K:Sl->Prop}(n:Nat)(y:hi=n)(h:n<=cap)(k:K ⟨some a,n,cap⟩):slc ⟨some a,len,cap⟩ none (some hi) none u K:=by subst y;refine qiJ ⟨oJ,by dsimp only;omega⟩ ?_;rw[zJ];exact k
theorem qaL{b len cap:Nat}{lo:Int}{K:Sl->Prop}(n:Nat)(h:lo=n)(y:n<=len)(u:len<=cap)(z:n<cap)(k:K ⟨some ⟨b,n,none⟩,len-n,cap-n⟩):slc ⟨pW b,len,cap⟩ (some lo) none none 1 K:=by subst h;refine qkO oJ oJ u oJ ?_;rw[zJ,xP,xO];exact k
theorem qtD{lo hi mx:Int}{u:Nat}{K:Sl->Prop}(h:0<=lo/\lo<=hi/\hi<=mx/\mx<=s.cap)(k:∀y,K y):slc s (some lo) (some hi) (some mx) u K:=by unfold slc;exact⟨by simpa using h,k _⟩
theorem qcF{α:Type}{e:α->Value}{b:Nat}{T:TypeId}{z:Nat×Nat}{l:List α}(A:w.heap[b]?=some (.cells cs T z))(C:cs.toList.take l.length=l.map e)(i:Nat):∀(j:Nat) u,((l.map e).drop i)[j]?=some u->w.cell? (Addr.add ⟨b,i,none⟩ j)=some u:=fun j u y=>by rw[Addr.add_mk,qah A];rw[yZ] at y;have h:=(zP.1 y).1;rw[zK] at h;rw[<- C,xA,if_pos h] at y;simpa using y
theorem qjR{α:Type}{e:α->Value}{l:List α}(h:cs.toList.take l.length=l.map e)(hi:i<=l.length:=by omega):cs.toList.take i=(l.map e).take i:=by rw[<- h,take_take,xN hi]
theorem qi5{α:Type}{enc:α->List Value}{e:α->Value}(u:∀x,enc x=[e x]){l:List α}(h:cs.toList.take l.length=l.flatMap enc):cs.toList.take l.length=l.map e:=by rw[h,qdn u]
theorem qrb{l:List Sl}{x:Sl}{vb:Nat}{T':TypeId}{K:Sl->WP}(h:Buf encSl 1 w s l B)(hi:i<=l.length)(he:ii=i)(hl:l.length<=100000)(hv:w.heap[vb]?=some (.cells #[elSl x] T' (0,0)))(ag:vb∉B)(kk:∀s' B' w',Buf encSl 1 w' s' (insAt l i x) B'->Fr B w w'->(∀b∈B',b∈B\/w.heap.size<=b)->K s' w'): cW 145 [s.v,.i ii,.slice (pW vb) 1 1] [.one .slice] w K:=by
 obtain⟨aD,R,hz,ah,ai⟩:=qlj;refine qjt (s:=s) (i:=ii) (v:=⟨pW vb,1,1⟩) ?_;unfold qfI;subst he;have aj:=h.len;have U:∀w',Fr B w w'->∀(j:Nat) u,([elSl x]:List Value)[j]?=some u->w'.cell? (Addr.add ⟨vb,0,none⟩ j)=some u:=fun w' f j u hj=>by rw[Addr.add_mk,qah (by rw[f.block vb (qac hv) ag];exact hv),xO];simpa using hj
 refine Rds.part (S:=[]) (Buf.rds (enc:=encSl) (k:=1) (fun _=>rfl) h (fun _ _ h=>nomatch h)) (lo:=some (i:Int)) (hi:=none) i l.length rfl (by rw[xS,aj]) hi (zM _) fun s1 _ _ _=>cond_false rfl ?_;apply qaa<;>intro V;have G:i=l.length:=(by have:=yO.1 V;omega);have ak:Src prog 1 161 (.slice (pW vb) 1 1) 1 ([x].flatMap encSl) w:=.ofSlice w (e':=27) oK _ 1 1 _ rfl (U w (.refl _ _)) (fun u hu=>by rw[yG,flatMap_nil,xF] at hu;rw[zE.1 hu];rfl);refine Buf.appSrc (ys:=[x]) (e:=27) h (fun _=>rfl) oK R hz ah rfl ak rfl (by rw[ai];omega) oJ fun s' B' w' b' f' n' _=>kk s' B' w' ?_ f' n';have e:insAt l i x=l++[x]:=(by unfold insAt;rw[G,xV,drop_length,xF]);rw[e];exact b';have G:i<l.length:=by
  have:=(zR.1 V)
  omega
 have aF:l≠[]:=fun e=>by rw[e] at G;exact absurd G (xU _)
 obtain⟨b,cs,T,rfl,ha,hb,hn,al,am,aG⟩:=h.ptr aF;have hM:=qi5 (e:=elSl) (fun _=>rfl) aG;obtain⟨sa,sn,sc⟩:=s;dsimp only at ha hn al am;subst ha hn;have aH:vb≠b:=(oP ag);have A:(l.map elSl).length=l.length:=zK ..;have an:∀v∈(l.map elSl).drop i,Value.oneCell' v=true:=fun v E=>by obtain⟨y,_,rfl⟩:=mem_map.1 (yT E);rfl
 have I:((l.map elSl).drop i).length=l.length-i:=(by rw[yB,A]);have J:wrap .i64 ((l.length:Int)+1)=((l.length+1:Nat):Int):=(by rw[wi' _ oJ];rfl);have ao:wrap .i64 ((i:Int)+1)=((i+1:Nat):Int):=(by rw[wi' _ oJ];rfl);have aI:wrap .i64 (((l.length+1:Nat):Int)-(i:Int))=((l.length+1-i:Nat):Int):=(by rw[wi' _ oJ];omega);apply qaa<;>intro V;have hg:sc<l.length+1:=by
  have:=zC V
  dsimp only at this;rw[show (((1:Nat):Int))=1 from rfl,J] at this;omega
 refine qeD i rfl oJ ?_;dsimp only;rw[show (((1:Nat):Int))=1 from rfl,J,aI,ao];have ap:i+(l.length+1-i)=l.length+1:=oJ;refine qkg (e:=27) (i:=aD) (kn:=.i64) (olds:=(l.map elSl).take i) oK oK R hz ah rfl (by rw[yK,A];omega) (fun h=>nomatch h) (fun a ha j u hj=>?_) oJ oJ (by rw[ap,ai];omega) oJ fun b2 aK c w2 e2 ab Q O aL aM=>?_;cases ha;have aq:=qcF hb hM 0 j u;rw[xD] at aq;rw[xA] at hj;split at hj;exact aq hj;cases hj;rw[ap] at O⊢;have ar:=qac hb;have aW:Fr [b2] w w2:=Q.mono fun _ h _=>nomatch h;refine qaL i rfl oJ O oJ<|qdN (vs:=[elSl x]) (src:=⟨pW vb,1,1⟩) ab (el:=27) oK oK ?_ (fun _=>⟨_,rfl,U w2 (Q.mono fun _ h _=>nomatch h)⟩) (fun v E=>by rw[zE.1 E];rfl) oO fun w3 ac f3=>?_;show 1=min 1 (l.length+1-i);omega;refine qaL (i+1) rfl oJ O oJ<|qaL i rfl oJ oJ oJ ?_;have aN:w3.heap[b]?=some (.cells cs T (0,0)):=by rw[f3.block b (yC ar Q.size) oO,Q.block b ar (fun h=>nomatch h)];exact hb
 refine qdN (w:=w3.drew) (vs:=(l.map elSl).drop i) (src:=⟨some ⟨b,i,none⟩,l.length-i,sc-i⟩) ac (el:=27) oK oK ?_ (fun _=>⟨_,rfl,qcF (w:=w3.drew) aN hM i⟩) an (by rw[qap,I];omega) fun w4 aO f4=>?_;rw[I];show l.length-i=min (l.length-i) (l.length+1-(i+1));omega;have C:=qs0 (cs:=aK) (M:=l.map elSl) (i:=i) (v:=elSl x) (by rw[A];omega) (by rw[A];omega) aM;have z:(insAt l i x).length=l.length+1:=(by unfold insAt;simp;omega);refine kk _ [b2] w4 (Buf.one (e:=elSl) (fun _=>rfl) aO z.symm O (by rw[qap,qap];exact aL) ?_) ?_ (fun b' ad=>?_);rw[z];rw[A] at C;rw[C];exact (qi8 elSl l i x).symm;refine Fr.trans' (S:=[b]) (T:=[b2]) (Q.mono fun _ h _=>nomatch h) (f3.drew.trans f4) fun i hi=>.inr ?_;rw[zE.1 hi,e2];exact zM _;rw[zE.1 ad,e2];exact .inr (zM _);have hg:l.length+1<=sc:=by
  have:=zB V
  dsimp only at this;rw[show (((1:Nat):Int))=1 from rfl,J] at this;omega
 dsimp only;rw[show (((1:Nat):Int))=1 from rfl,J,ao];refine qeD (l.length+1) rfl hg<|qaL (i+1) rfl oJ hg oJ<|qig (e:=Extern.SlicesOverlaps.overlaps #[161,161] #[4]) Tryz.func185 oK oK oK oK false w (qly oK R hv hb aH)<|cond_true rfl<|qaL (i+1) rfl oJ hg oJ<|qaL i rfl oJ hg oJ<|qdN (w:=w.drew) (vs:=(l.map elSl).drop i) (src:=⟨some ⟨b,i,none⟩,l.length+1-i,sc-i⟩) hb (el:=27) oK oK ?_ (fun _=>⟨_,rfl,qcF (w:=w.drew) hb hM i⟩) an (by rw[I];omega) fun w2 ab Q=>?_;rw[I];show l.length-i=min (l.length+1-i) (l.length+1-(i+1));omega;refine qaL i rfl oJ hg oJ<|qdN (vs:=[elSl x]) (src:=⟨pW vb,1,1⟩) ab (el:=27) oK oK ?_ (fun _=>⟨_,rfl,U w2 ((Fr.refl [b] w).drew.trans Q)⟩) (fun v E=>by rw[zE.1 E];rfl) (by rw[qap];simp;omega) fun w3 ac f3=>?_;show 1=min 1 (l.length+1-i);omega;have C:=qs2 (cs:=cs) (M:=l.map elSl) (i:=i) (v:=elSl x) (by rw[A];omega) (by rw[A];omega) (qjR hM);have z:(insAt l i x).length=l.length+1:=(by unfold insAt;simp;omega);refine kk _ [b] w3 (Buf.one (e:=elSl) (fun _=>rfl) ac z.symm hg (by rw[qap,qap];exact am) ?_) (((Fr.refl [b] w).drew.trans Q).trans f3) (fun b' ad=>.inl ad);rw[z];rw[A] at C;rw[C];exact (qi8 elSl l i x).symm
theorem qq8{l:List Sl}{jj:Int}{K:Sl->WP}(h:Buf encSl 1 w s l B)(hi:i<l.length)(he:ii=i)(hj:jj=((i+1:Nat):Int))(hl:l.length<=100000)(kk:∀s' w',Buf encSl 1 w' s' (delAt l i) B->Fr B w w'->K s' w'): cW 151 [s.v,.i ii,.i jj] [.one .slice] w K:=by
 obtain⟨ar,V,hz,aa,au⟩:=qlj;refine qjr ?_;unfold qfG;subst he hj;have ab:l≠[]:=fun e=>by rw[e] at hi;exact absurd hi (xU _)
 obtain⟨b,cs,T,rfl,ha,hb,hn,O,E,ac⟩:=h.ptr ab;have hM:=qi5 (e:=elSl) (fun _=>rfl) ac;obtain⟨sa,sn,sc⟩:=s;dsimp only at ha hn O E;subst ha hn;have A:(l.map elSl).length=l.length:=zK ..;have ax:∀v∈(l.map elSl).drop (i+1),Value.oneCell' v=true:=fun v ad=>by obtain⟨y,_,rfl⟩:=mem_map.1 (yT ad);rfl
 have ay:((l.map elSl).drop (i+1)).length=l.length-(i+1):=(by rw[yB,A]);refine qtD oN fun _=>cond_false (zR.2 oJ)<|qeD i rfl oJ ?_;have ae:∀J,J.heap[b]?=some (.cells (splice cs i ((l.map elSl).drop (i+1))) T (0,0))->Fr [b] w J->slc ⟨pW b,l.length-1,sc⟩ (some (((l.length-1:Nat)):Int)) (some ((l.length:Nat):Int)) none 1 fun (G:Sl)=>
  run [] ((Builtin.clear_ #[161] 0 (#[Value.slice G.a G.len G.cap])).run prog J)<|
  fun (az:PUnit) (af:World)=>
  K ⟨pW b,l.length-1,sc⟩ af:=fun J I f5=>by
  refine qje oJ oJ oJ oJ ?_;rw[zJ,zJ,xP,xO];have h1:l.length-(l.length-1)=1:=oJ;rw[h1];dsimp only;refine qqG (e:=27) (z:=(Value.slice none 0 0)) I oK oK rfl rfl oJ (by rw[qap];omega) fun w6 ah f6=>?_;have C:=qsJ (cs:=cs) (M:=l.map elSl) (i:=i) (z:=(Value.slice none 0 0)) (by rw[A];omega) (by rw[A];exact hM);have Q:(delAt l i).length=l.length-1:=(by unfold delAt;simp;omega);refine kk _ w6 (Buf.one (e:=elSl) (fun _=>rfl) ah Q.symm oJ (by rw[qap,qap];exact E) ?_) (f5.trans f6);rw[Q];rw[A] at C;rw[show List.replicate 1 ((Value.slice none 0 0))=[(Value.slice none 0 0)] from rfl,C];exact (qqH elSl l i).symm
 refine Rds.part (S:=[]) (Buf.rds (enc:=encSl) (k:=1) (fun _=>rfl) h (fun _ _ h=>nomatch h)) (lo:=some ((i+1:Nat):Int)) (hi:=none) (i+1) l.length rfl rfl oJ (zM _) fun s3 R h3 aE=>?_;have U:Src prog 1 161 s3.v s3.len ((l.map elSl).drop (i+1)) w.drew:=by
  have:=qeC (P:=prog) (tx:=161) (e':=27) (h3.same (Same.refl w).drew) (fun _=>rfl) (fun x u hu=>by rw[zE.1 hu];rfl)
  rw[qdn (enc:=encSl) (e:=elSl) (fun _=>rfl),xV,xM] at this;exact this
 dsimp only;refine qqB (w:=w.drew) (e:=27) hb oK V aa U (by rw[R];omega) E fun J I f5=>?_;have e:i+s3.len=l.length-1:=(by rw[R];omega);rw[e];exact ae J I ((Fr.refl [b] w).drew.trans f5)
theorem qrc{l:List Int}{x:Int}{vb:Nat}{T':TypeId}{K:Sl->WP}(h:Buf encU 1 w s l B)(hi:i<=l.length)(he:ii=i)(hl:l.length<=100000)(hv:w.heap[vb]?=some (.cells #[elU x] T' (0,0)))(ag:vb∉B)(kk:∀s' B' w',Buf encU 1 w' s' (insAt l i x) B'->Fr B w w'->(∀b∈B',b∈B\/w.heap.size<=b)->K s' w'): cW 147 [s.v,.i ii,.slice (pW vb) 1 1] [.one .slice] w K:=by
 obtain⟨aD,R,hz,ah,ai⟩:=qc2;refine qju (s:=s) (i:=ii) (v:=⟨pW vb,1,1⟩) ?_;unfold qfJ;subst he;have aj:=h.len;have U:∀w',Fr B w w'->∀(j:Nat) u,([elU x]:List Value)[j]?=some u->w'.cell? (Addr.add ⟨vb,0,none⟩ j)=some u:=fun w' f j u hj=>by rw[Addr.add_mk,qah (by rw[f.block vb (qac hv) ag];exact hv),xO];simpa using hj
 refine Rds.part (S:=[]) (Buf.rds (enc:=encU) (k:=1) (fun _=>rfl) h (fun _ _ h=>nomatch h)) (lo:=some (i:Int)) (hi:=none) i l.length rfl (by rw[xS,aj]) hi (zM _) fun s1 _ _ _=>cond_false rfl ?_;apply qaa<;>intro V;have G:i=l.length:=(by have:=yO.1 V;omega);have ak:Src prog 1 31 (.slice (pW vb) 1 1) 1 ([x].flatMap encU) w:=.ofSlice w (e':=32) oK _ 1 1 _ rfl (U w (.refl _ _)) (fun u hu=>by rw[yG,flatMap_nil,xF] at hu;rw[zE.1 hu];rfl);refine Buf.appSrc (ys:=[x]) (e:=32) h (fun _=>rfl) oK R hz ah rfl ak rfl (by rw[ai];omega) oJ fun s' B' w' b' f' n' _=>kk s' B' w' ?_ f' n';have e:insAt l i x=l++[x]:=(by unfold insAt;rw[G,xV,drop_length,xF]);rw[e];exact b';have G:i<l.length:=by
  have:=(zR.1 V)
  omega
 have aF:l≠[]:=fun e=>by rw[e] at G;exact absurd G (xU _)
 obtain⟨b,cs,T,rfl,ha,hb,hn,al,am,aG⟩:=h.ptr aF;have hM:=qi5 (e:=elU) (fun _=>rfl) aG;obtain⟨sa,sn,sc⟩:=s;dsimp only at ha hn al am;subst ha hn;have aH:vb≠b:=(oP ag);have A:(l.map elU).length=l.length:=zK ..;have an:∀v∈(l.map elU).drop i,Value.oneCell' v=true:=fun v E=>by obtain⟨y,_,rfl⟩:=mem_map.1 (yT E);rfl
 have I:((l.map elU).drop i).length=l.length-i:=(by rw[yB,A]);have J:wrap .i64 ((l.length:Int)+1)=((l.length+1:Nat):Int):=(by rw[wi' _ oJ];rfl);have ao:wrap .i64 ((i:Int)+1)=((i+1:Nat):Int):=(by rw[wi' _ oJ];rfl);have aI:wrap .i64 (((l.length+1:Nat):Int)-(i:Int))=((l.length+1-i:Nat):Int):=(by rw[wi' _ oJ];omega);apply qaa<;>intro V;have hg:sc<l.length+1:=by
  have:=zC V
  dsimp only at this;rw[show (((1:Nat):Int))=1 from rfl,J] at this;omega
 refine qeD i rfl oJ ?_;dsimp only;rw[show (((1:Nat):Int))=1 from rfl,J,aI,ao];have ap:i+(l.length+1-i)=l.length+1:=oJ;refine qkg (e:=32) (i:=aD) (kn:=.i64) (olds:=(l.map elU).take i) oK oK R hz ah rfl (by rw[yK,A];omega) (fun h=>nomatch h) (fun a ha j u hj=>?_) oJ oJ (by rw[ap,ai];omega) oJ fun b2 aK c w2 e2 ab Q O aL aM=>?_;cases ha;have aq:=qcF hb hM 0 j u;rw[xD] at aq;rw[xA] at hj;split at hj;exact aq hj;cases hj;rw[ap] at O⊢;have ar:=qac hb;have aW:Fr [b2] w w2:=Q.mono fun _ h _=>nomatch h;refine qaL i rfl oJ O oJ<|qdN (vs:=[elU x]) (src:=⟨pW vb,1,1⟩) ab (el:=32) oK oK ?_ (fun _=>⟨_,rfl,U w2 (Q.mono fun _ h _=>nomatch h)⟩) (fun v E=>by rw[zE.1 E];rfl) oO fun w3 ac f3=>?_;show 1=min 1 (l.length+1-i);omega;refine qaL (i+1) rfl oJ O oJ<|qaL i rfl oJ oJ oJ ?_;have aN:w3.heap[b]?=some (.cells cs T (0,0)):=by rw[f3.block b (yC ar Q.size) oO,Q.block b ar (fun h=>nomatch h)];exact hb
 refine qdN (w:=w3.drew) (vs:=(l.map elU).drop i) (src:=⟨some ⟨b,i,none⟩,l.length-i,sc-i⟩) ac (el:=32) oK oK ?_ (fun _=>⟨_,rfl,qcF (w:=w3.drew) aN hM i⟩) an (by rw[qap,I];omega) fun w4 aO f4=>?_;rw[I];show l.length-i=min (l.length-i) (l.length+1-(i+1));omega;have C:=qs0 (cs:=aK) (M:=l.map elU) (i:=i) (v:=elU x) (by rw[A];omega) (by rw[A];omega) aM;have z:(insAt l i x).length=l.length+1:=(by unfold insAt;simp;omega);refine kk _ [b2] w4 (Buf.one (e:=elU) (fun _=>rfl) aO z.symm O (by rw[qap,qap];exact aL) ?_) ?_ (fun b' ad=>?_);rw[z];rw[A] at C;rw[C];exact (qi8 elU l i x).symm;refine Fr.trans' (S:=[b]) (T:=[b2]) (Q.mono fun _ h _=>nomatch h) (f3.drew.trans f4) fun i hi=>.inr ?_;rw[zE.1 hi,e2];exact zM _;rw[zE.1 ad,e2];exact .inr (zM _);have hg:l.length+1<=sc:=by
  have:=zB V
  dsimp only at this;rw[show (((1:Nat):Int))=1 from rfl,J] at this;omega
 dsimp only;rw[show (((1:Nat):Int))=1 from rfl,J,ao];refine qeD (l.length+1) rfl hg<|qaL (i+1) rfl oJ hg oJ<|qig (e:=Extern.SlicesOverlaps.overlaps #[31,31] #[4]) Tryz.func189 oK oK oK oK false w (qly oK R hv hb aH)<|cond_true rfl<|qaL (i+1) rfl oJ hg oJ<|qaL i rfl oJ hg oJ<|qdN (w:=w.drew) (vs:=(l.map elU).drop i) (src:=⟨some ⟨b,i,none⟩,l.length+1-i,sc-i⟩) hb (el:=32) oK oK ?_ (fun _=>⟨_,rfl,qcF (w:=w.drew) hb hM i⟩) an (by rw[I];omega) fun w2 ab Q=>?_;rw[I];show l.length-i=min (l.length+1-i) (l.length+1-(i+1));omega;refine qaL i rfl oJ hg oJ<|qdN (vs:=[elU x]) (src:=⟨pW vb,1,1⟩) ab (el:=32) oK oK ?_ (fun _=>⟨_,rfl,U w2 ((Fr.refl [b] w).drew.trans Q)⟩) (fun v E=>by rw[zE.1 E];rfl) (by rw[qap];simp;omega) fun w3 ac f3=>?_;show 1=min 1 (l.length+1-i);omega;have C:=qs2 (cs:=cs) (M:=l.map elU) (i:=i) (v:=elU x) (by rw[A];omega) (by rw[A];omega) (qjR hM);have z:(insAt l i x).length=l.length+1:=(by unfold insAt;simp;omega);refine kk _ [b] w3 (Buf.one (e:=elU) (fun _=>rfl) ac z.symm hg (by rw[qap,qap];exact am) ?_) (((Fr.refl [b] w).drew.trans Q).trans f3) (fun b' ad=>.inl ad);rw[z];rw[A] at C;rw[C];exact (qi8 elU l i x).symm
theorem qq9{l:List Int}{jj:Int}{K:Sl->WP}(h:Buf encU 1 w s l B)(hi:i<l.length)(he:ii=i)(hj:jj=((i+1:Nat):Int))(hl:l.length<=100000)(kk:∀s' w',Buf encU 1 w' s' (delAt l i) B->Fr B w w'->K s' w'): cW 222 [s.v,.i ii,.i jj] [.one .slice] w K:=by
 obtain⟨ar,V,hz,aa,au⟩:=qc2;refine qjs ?_;unfold qfH;subst he hj;have ab:l≠[]:=fun e=>by rw[e] at hi;exact absurd hi (xU _)
 obtain⟨b,cs,T,rfl,ha,hb,hn,O,E,ac⟩:=h.ptr ab;have hM:=qi5 (e:=elU) (fun _=>rfl) ac;obtain⟨sa,sn,sc⟩:=s;dsimp only at ha hn O E;subst ha hn;have A:(l.map elU).length=l.length:=zK ..;have ax:∀v∈(l.map elU).drop (i+1),Value.oneCell' v=true:=fun v ad=>by obtain⟨y,_,rfl⟩:=mem_map.1 (yT ad);rfl
 have ay:((l.map elU).drop (i+1)).length=l.length-(i+1):=(by rw[yB,A]);refine qtD oN fun _=>cond_false (zR.2 oJ)<|qeD i rfl oJ ?_;have ae:∀J,J.heap[b]?=some (.cells (splice cs i ((l.map elU).drop (i+1))) T (0,0))->Fr [b] w J->slc ⟨pW b,l.length-1,sc⟩ (some (((l.length-1:Nat)):Int)) (some ((l.length:Nat):Int)) none 1 fun (G:Sl)=>
  run [] ((Builtin.clear_ #[31] 0 (#[Value.slice G.a G.len G.cap])).run prog J)<|
  fun (az:PUnit) (af:World)=>
  K ⟨pW b,l.length-1,sc⟩ af:=fun J I f5=>by
  refine qje oJ oJ oJ oJ ?_;rw[zJ,zJ,xP,xO];have h1:l.length-(l.length-1)=1:=oJ;rw[h1];dsimp only;refine qqG (e:=32) (z:=(Value.int .u32 0)) I oK oK rfl rfl oJ (by rw[qap];omega) fun w6 ah f6=>?_;have C:=qsJ (cs:=cs) (M:=l.map elU) (i:=i) (z:=(Value.int .u32 0)) (by rw[A];omega) (by rw[A];exact hM);have Q:(delAt l i).length=l.length-1:=(by unfold delAt;simp;omega);refine kk _ w6 (Buf.one (e:=elU) (fun _=>rfl) ah Q.symm oJ (by rw[qap,qap];exact E) ?_) (f5.trans f6);rw[Q];rw[A] at C;rw[show List.replicate 1 ((Value.int .u32 0))=[(Value.int .u32 0)] from rfl,C];exact (qqH elU l i).symm
 refine Rds.part (S:=[]) (Buf.rds (enc:=encU) (k:=1) (fun _=>rfl) h (fun _ _ h=>nomatch h)) (lo:=some ((i+1:Nat):Int)) (hi:=none) (i+1) l.length rfl rfl oJ (zM _) fun s3 R h3 aE=>?_;have U:Src prog 1 31 s3.v s3.len ((l.map elU).drop (i+1)) w.drew:=by
  have:=qeC (P:=prog) (tx:=31) (e':=32) (h3.same (Same.refl w).drew) (fun _=>rfl) (fun x u hu=>by rw[zE.1 hu];rfl)
  rw[qdn (enc:=encU) (e:=elU) (fun _=>rfl),xV,xM] at this;exact this
 dsimp only;refine qqB (w:=w.drew) (e:=32) hb oK V aa U (by rw[R];omega) E fun J I f5=>?_;have e:i+s3.len=l.length-1:=(by rw[R];omega);rw[e];exact ae J I ((Fr.refl [b] w).drew.trans f5)
section
structure TW (dbk pb:Nat) (FD:List Nat) (D:DiskM) (j:Nat) (w:World) (Y F:List Nat) (M:PgM):Prop where
 disk:DiskAt w dbk FD D
 lim:Lim D j
 pager:PagerAt w (FD++HG::Y) pb (dbOf dbk M) F M
 hv:Hv w
 wf:M.Wf
 sep:∀ b∈Y,b∉FD/\b≠HG
abbrev Zo (FD Y F:List Nat):List Nat:=(FD++HG::Y)++F
section
variable {dbk pb j:Nat} {FD Y Y' F:List Nat} {D:DiskM} {w w':World} {M:PgM}
theorem TW.frame0(h:TW dbk pb FD D j w Y F M)(f:Fr [] w w'):TW dbk pb FD D j w' Y F M:=⟨h.disk.frame0 f,h.lim,h.pager.frame0 f,h.hv.frame0 f,h.wf,h.sep⟩
theorem TW.ylt(h:TW dbk pb FD D j w Y F M):∀b∈Y,b<w.heap.size:=fun b u=>h.pager.xlt b (by simp[u])
theorem TW.zlt(h:TW dbk pb FD D j w Y F M):∀b∈Zo FD Y F,b<w.heap.size:=fun b u=>(zD.1 u).elim (h.pager.xlt b) (h.pager.lt b)
theorem TW.yf(h:TW dbk pb FD D j w Y F M):∀b∈Y,b∉F:=fun b u=>h.pager.sep b (by simp[u])
theorem TW.frameY(h:TW dbk pb FD D j w Y F M)(f:Fr Y w w')(E:∀b∈Y',b<w'.heap.size)(A:∀b∈Y',b∈Y\/w.heap.size<=b):TW dbk pb FD D j w' Y' F M where
 disk:=h.disk.frame f fun b u z=>(h.sep b z).1 u
 lim:=h.lim
 pager:=h.pager.frameX (f.mono fun b u _=>by simp[u]) (fun b u=>by
  rcases zD.1 u with u|u;exact yC (h.disk.lt b u) f.size;rcases zG.1 u with rfl|u;exact yC h.hv.lt f.size;exact E b u) fun b u=>by
  rcases zD.1 u with u|u;exact .inl (zH _ u);rcases zG.1 u with rfl|u;exact .inl oL;rcases A b u with y|y;exact .inl (by simp[y]);exact .inr y
 hv:=h.hv.frame f fun z=>(h.sep _ z).2 rfl
 wf:=h.wf
 sep:=fun b u=>by rcases A b u with y|y;exact h.sep b y;exact⟨fun C=>by have:=h.disk.lt b C;omega,fun C=>by have:=h.hv.lt;omega⟩
theorem TW.weakY(h:TW dbk pb FD D j w Y F M)(y:∀b∈Y',b∈Y):TW dbk pb FD D j w Y' F M:=h.frameY (.refl _ _) (fun b u=>h.ylt b (y b u)) fun b u=>.inl (y b u)
theorem TW.addY{w0:World}(h:TW dbk pb FD D j w0 Y F M)(f:Fr Y w0 w)(y:∀b∈B,w0.heap.size<=b/\b<w.heap.size):TW dbk pb FD D j w (B++Y) F M:=
 h.frameY f (fun b u=>(zD.1 u).elim (fun u=>(y b u).2) fun u=>yC (h.ylt b u) f.size) fun b u=>(zD.1 u).elim (fun u=>.inr (y b u).1) .inl
theorem qtb(M:PgM)(kd:Int)(b:List Int):(makeV M kd b).2.over=M.over:=by unfold makeV;split;rfl;split;rfl;split<;>rfl
theorem quH(M:PgM)(n kd:Int)(b:List Int):(putV M n kd b).2.over=M.over:=by unfold putV;split;rfl;split;rfl;split<;>rfl
theorem qsK(M:PgM)(n:Int):(dropV M n).2.over=M.over:=by unfold dropV;split;rfl;split;rfl;split<;>rfl
theorem qtx(M:PgM)(t a b c:Int):(setRootM M t a b c).2.over=M.over:=by unfold setRootM;split;rfl;split<;>rfl
theorem qsH{M M':PgM}(h:M'.over=M.over):dbOf dbk M'=dbOf dbk M:=by unfold dbOf;rw[h]
theorem TW.next{M':PgM}(h:TW dbk pb FD D j w Y F M)(u:M'.over=M.over)(y:M'.Wf)(z:PagerAt w' (FD++HG::Y) pb (dbOf dbk M) F' M')(f:Fr F w w'):TW dbk pb FD D j w' Y F' M' where
 disk:=h.disk.frame f fun b A=>h.pager.sep b (zH _ A)
 lim:=h.lim
 pager:=by rw[qsH u];exact z
 hv:=h.hv.frame f (h.pager.sep HG oL)
 wf:=y
 sep:=h.sep
theorem TW.make{kind:Int}{K:Int×Int->WP}(h:TW dbk pb FD D j w Y F M)(y:RdB (Zo FD Y F) w s body)(z:body.length<=100000)(A:0<=kind/\kind<256)(C:IsB body)(E:∀F' w',TW dbk pb FD D j w' Y F' (makeV M kind body).2->Fr F w w'->(∀b∈F',b∈F\/w.heap.size<=b)->K (makeV M kind body).1 w'): cW 144 [.pointer (pW pb),.b kind,s.v] [.one .u,.one .i] w K:=
 qtU h.pager y z (by have:=h.wf.all;omega) fun F' w' G f I=>E F' w' (h.next (qtb M kind body) (qq0 h.wf A C).1 G f) f I
theorem TW.put{n kind:Int}(h:TW dbk pb FD D j w Y F M)(y:RdB (Zo FD Y F) w s body)(z:body.length<=100000)(A:0<=kind/\kind<256)(C:IsB body)(E:∀w',TW dbk pb FD D j w' Y F (putV M n kind body).2->Fr F w w'->K (putV M n kind body).1 w'): cW 143 [.pointer (pW pb),.u n,.b kind,s.v] [.one .i] w K:=
 qu6 h.pager y z fun w' G f=>E w' (h.next (quH M n kind body) (qtp h.wf A C).1 G f) f
theorem TW.drop{n:Int}(h:TW dbk pb FD D j w Y F M)(y:∀F' w',TW dbk pb FD D j w' Y F' (dropV M n).2->Fr F w w'->(∀b∈F',b∈F\/w.heap.size<=b)->K (dropV M n).1 w'): cW 111 [.pointer (pW pb),.u n] [.one .i] w K:=
 qtS h.pager (by have:=h.wf.all;omega) (by have:=h.wf.all;omega) (by have:=h.wf.all;omega) fun F' w' z f A=>y F' w' (h.next (qsK M n) (qqJ h.wf) z f) f A
theorem TW.read{n:Int}{K:Int×Sl×Int->WP}(h:TW dbk pb FD D j w Y F M)(y:U32 n)(z:∀s w',(∀G:List Nat,(∀b∈G,b<w.heap.size)->RdB G w' s (pagerReadM D M n).2.1)->Fr [] w w'->K ((pagerReadM D M n).1,s,(pagerReadM D M n).2.2) w'): cW 41 [.pointer (pW pb),.u n] [.one .b,.one .slice,.one .i] w K:=
 qsp h.disk h.lim h.pager h.hv y (by have:=h.wf.all;omega) (fun e A=>zL (h.wf.body e A).2.1 oM) z
theorem TW.root{t:Int}{K:Int×Int×Int->WP}(h:TW dbk pb FD D j w Y F M)(y:∀w',Fr [] w w'->K (rootM M t) w'): cW 10 [.pointer (pW pb),.i t] [.agg [.u,.u,.u]] w K:=qtX h.pager y
theorem qsc{t a b c:Int}(u:M.Wf)(y:U32 a)(z:U32 b)(A:U32 c):(setRootM M t a b c).2.Wf:=by unfold setRootM;split;exact u;split;exact u;refine qpK u fun x h=>?_;simp only[zD,zG,xT,or_false] at h;rcases h with (h|rfl|rfl|rfl)|h;exact u.roots x (yU h);exact y;exact z;exact A;exact u.roots x (yT h)
theorem TW.setRoot{t a b c:Int}(h:TW dbk pb FD D j w Y F M)(y:U32 a)(z:U32 b)(A:U32 c)(C:∀w',TW dbk pb FD D j w' Y F (setRootM M t a b c).2->Fr F w w'->K (setRootM M t a b c).1 w'): cW 19 [.pointer (pW pb),.i t,.agg #[.u a,.u b,.u c]] [.one .i] w K:=
 qpR h.pager fun w' E f=>C w' (h.next (qtx M t a b c) (qsc h.wf y z A) E f) f
theorem TW.room(h:TW dbk pb FD D j w Y F M)(u:K M.free.length w):cW 13 [.pointer (pW pb)] [.one .i] w K:=qtW h.pager u
theorem TW.znew(h:∀b∈F',b∈F\/w.heap.size<=b):∀b∈Zo FD Y F',b∈Zo FD Y F\/w.heap.size<=b:=qmj h
theorem qkM(h:M.Wf)(t:Int):U32 (rootM M t).1/\U32 (rootM M t).2.1/\U32 (rootM M t).2.2:=by
 have key:∀n,U32 (M.roots.getD n 0):=fun n=>by
  rw[yQ];cases e:M.roots[n]? with
  | none=>exact⟨oM,oM⟩
  | some x=>exact h.roots x (yE e)
 unfold rootM;split;exact⟨⟨oM,oM⟩,⟨oM,oM⟩,⟨oM,oM⟩⟩;exact⟨key _,key _,key _⟩
end
end
section
theorem qoZ{mb:Nat}{g:List (Int×Value)}{K:Option Nat->WP}(h:MapS u32V w mb g)(E:∀y w',y=w.heap.size->MapS u32V w' y g->Fr [] w w'->K (some y) w'): cW 182 [.map (some mb)] [.one .map] w K:=by
 refine qnL ?_;unfold qjS;refine cond_false rfl ?_;obtain⟨C,c,G,I,J,O⟩:=h;have A:(Extern.MapsClone.clone #[.iface MLT (.map (some mb))]).run prog w=.ok (.iface MLT (.map (some w.heap.size))) (w.alloc (.map C c)):=by
  have e:Extern.MapsClone.clone #[.iface MLT (.map (some mb))]=(getObj mb >>=fun o=>match o with
    | .map u z=>(newObj (.map u z) >>=fun n=>pure (.iface MLT (.map (some n))))
    | _=>stuck "maps.clone: a map expected"):=rfl
  rw[e];simp[Go.MapKept.run_getObj_map G,Result.andThen,go_sem]
 refine qig (e:=Extern.MapsClone.clone) Tryz.func216 (by kernel_rfl) (by kernel_rfl) (by kernel_rfl) (by kernel_rfl) (.iface MLT (.map (some w.heap.size))) (w.alloc (.map C c)) A<|qaJ (ts:=[Ty1.one .map]) (some w.heap.size) ?_ ?_;simp[Instr.typeAssert,run_underlying (show prog.underlying MLT=some (.map 32 171) by kernel_rfl),go_sem,Result.andThen];rfl;exact E _ _ rfl ⟨C,c,by rw[qbh,if_pos rfl],I,J,O⟩ ((Fr.refl [] w).alloc _)
theorem qnK{P:Program}{t d:TypeId}(D:Nat)(h:P.underlying t=some (.pointer d))(hi:(P.info? d).isSome=true)(u:sizeT P d≠0)(w:World): (Op.equalIn (D+1) t (.pointer (some a)) (.pointer (some a))).run P w=.ok true w:=by simp[Op.equalIn,run_underlying h,qat hi,sameAddr,u]
theorem qvI{P:Program}{t d:TypeId}{x y:Operand}{K:Bool->Prop}(u:P.underlying t=some (.pointer d))(hi:(P.info? d).isSome=true)(h:Nat.beq (sizeT P d) 0=false)(k:K false): runQ [Ty1.one Cell.bool] (fun w'=>(do eqGuard .neq t x y (.pointer (some a)) (.pointer (some a));binOp .neq t (.pointer (some a)) (.pointer (some a)):Sem Value).run P w') w K:=by have z:=qnK (P:=P) (a:=a) 9999 u hi (fun e=>by rw[e] at h;cases h) w;have A:(binOp .neq t (.pointer (some a)) (.pointer (some a))).run P w=.ok (.bool false) w:=qay (P:=P) true z;unfold runQ;refine⟨false,?_,k⟩;simp[eqGuard,A];rfl
section
variable {w:World} {S:List Nat}
structure WorkAt (w:World) (S:List Nat) (fb defb mb:Nat) (F1 F2:List Nat) (fs:List (Int×Leaf)) (q:PgM):Prop where
 free:PoolAt w fb F1 q.free
 deferred:PoolAt w defb F2 q.deferred
 map:MapS u32V w mb (fs.map fun e=>(e.1,leafV e.2))
 fresh:q.fresh=fs.map fun e=>(e.1,e.2.1,e.2.2.2)
 bodies:∀ e∈fs,RdB S w e.2.2.1 e.2.2.2
 out:∀ b∈mb::(F1++F2),b∉S
 apart:mb∉F1/\mb∉F2/\∀ b∈F1,b∉F2
 roots:q.roots.length=24
theorem WorkAt.lt{fb defb mb:Nat}{F1 F2:List Nat}{y:List (Int×Leaf)}{q:PgM}(h:WorkAt w S fb defb mb F1 F2 y q):∀b∈mb::(F1++F2),b<w.heap.size:=fun b u=>by rcases zG.1 u with rfl|u;exact h.map.lt;exact (zD.1 u).elim (h.free.lt b) (h.deferred.lt b)
theorem WorkAt.frame{fb defb mb:Nat}{F1 F2:List Nat}{y:List (Int×Leaf)}{q:PgM}{S':List Nat}{w':World}(h:WorkAt w S fb defb mb F1 F2 y q)(f:Fr S w w')(z:∀b∈S',b∈S\/w.heap.size<=b):WorkAt w' S' fb defb mb F1 F2 y q where
 free:=h.free.frame f fun b u=>h.out b (by simp[u])
 deferred:=h.deferred.frame f fun b u=>h.out b (by simp[u])
 map:=h.map.frame f (h.out mb oL)
 fresh:=h.fresh
 bodies:=fun e A=>(h.bodies e A).frame f z
 out:=fun b u C=>(z b C).elim (h.out b u) fun E=>by have:=h.lt b u;omega
 apart:=h.apart
 roots:=h.roots
theorem qnE(x y:Option Addr)(m:Option Nat)(roots:List Int):(workV x y m roots).all Value.oneCell'=true:=by rw[all_eq_true];intro v h;simp only[workV,zD,zG,mem_map,xT,or_false] at h;rcases h with (rfl|rfl|rfl)|⟨x,_,rfl⟩<;>rfl
theorem qwm:((prog.info? WKT).bind (·.zero)).map (fun z=>z.cells.toList)=some (workV none none none (zs 24)):=by kernel_rfl
theorem qmM{fb defb mb:Nat}{F1 F2:List Nat}{fs:List (Int×Leaf)}{q:PgM}{K:List Value->WP}(h:WorkAt w S fb defb mb F1 F2 fs q)(ae:q.free.length<=1000000)(af:q.deferred.length<=1000000)(hk:∀A u C J O w',WorkAt w' S A u C J O fs q->Fr [] w w'->(∀b∈C::(J++O),w.heap.size<=b)->K (workV (pW A) (pW u) (some C) q.roots) w')(hS:∀b∈S,b<w.heap.size): cW 141 [.agg (workV (pW fb) (pW defb) (some mb) q.roots).toArray] [.raw] w K:=by
 refine qhc ?_;unfold qdW;have hr:=h.roots;refine oB (oE [] w) fun r1 w1 e1 f1 ag=>oI ag qwm fun r3 w2 e3 ah=>?_;have I:=ah.drew;generalize World.drew w2=wd at I;refine oA I 1 rfl (pW fb) rfl<|oA I 1 rfl (pW defb) rfl<|oA I 1 rfl (some mb) rfl<|qqs (h.free.frame I.fr fun _ _ h=>nomatch h) ae fun A J w4 p1 f4 n1=>?_;have Q:=I.frame0 f4;refine qaq (Q.cell 1 rfl rfl) (Q.cell 1 rfl rfl)<|qqs (h.deferred.frame (I.fr.trans f4) fun _ _ h=>nomatch h) af fun u O w5 p2 f5 n2=>?_;have R:=Q.frame0 f5;refine qai (R.cell 1 rfl rfl)<|qoZ (h.map.frame R.fr fun h=>nomatch h) fun C w6 em p3 f6=>?_;have am:=R.frame0 f6;refine oG am 1 rfl (workV (pW A) (pW defb) (some mb) q.roots).toArray rfl rfl (by rw[size_toArray,qau hr];exact zO rfl) fun w7 an f7=>oG an 1 rfl (workV (pW A) (pW u) (some mb) q.roots).toArray rfl rfl (by rw[size_toArray,qau hr];exact zO rfl) fun w8 ao f8=>oG ao 1 rfl (workV (pW A) (pW u) (some C) q.roots).toArray rfl rfl (by rw[size_toArray,qau hr];exact zO rfl) fun w9 ab f9=>?_;have U:=qau (x:=pW A) (y:=pW u) (m:=some C) hr;refine qaX (ab.at (i:=1) rfl) (workV (pW A) (pW u) (some C) q.roots) U (by rw[xD,zS (Nat.le_of_eq U)])<|qaP U<|oG ab 0 rfl (workV (pW A) (pW u) (some C) q.roots).toArray (qcg (by rw[size_toArray,U,qau (qaG 24)])) (qnE _ _ _ _) (by rw[size_toArray,U,qau (qaG 24)];exact zO rfl) fun ac G ap=>qaX (G.at (i:=0) rfl) (workV (pW A) (pW u) (some C) q.roots) U (by rw[xD,zS (Nat.le_of_eq U)]) ?_;have aq:=qac (I.at (i:=1) rfl);have ar:=qac (I.at (i:=0) rfl);have g7:Fr [r1,r3] w6 ac:=(((f7.mono fun b z _=>by rw[zE.1 z];simp).trans (f8.mono fun b z _=>by rw[zE.1 z];simp)).trans (f9.mono fun b z _=>by rw[zE.1 z];simp)).trans (ap.mono fun b z _=>by rw[zE.1 z];simp);have s4:=f4.size;have s5:=f5.size;have s0:=I.fr.size;have V:∀b,b∈[r1,r3]->b<wd.heap.size:=fun b z=>by rcases zG.1 z with rfl|z;exact aq;rw[zE.1 z];exact ar
 have l1:=p1.lt;have l2:=p2.lt;refine hk A u C J O ac ?_ G.fr fun b z=>?_;refine⟨(p1.frame (f5.trans f6) fun _ _ h=>nomatch h).frame g7 (fun b z E=>by have:=n1 b z;have:=V b E;omega),(p2.frame f6 fun _ _ h=>nomatch h).frame g7 (fun b z E=>by have:=n2 b z;have:=V b E;omega),p3.frame g7 (fun E=>by have:=V _ E;omega),h.fresh,fun e he=>?_,fun b z E=>?_,⟨fun E=>by have:=l1 _ E;omega,fun E=>by have:=l2 _ E;omega,fun b z E=>by have:=l1 b z;have:=n2 b E;omega⟩,hr⟩;exact (h.bodies e he).frame (G.fr.mono fun b z=>nomatch z) fun b z=>.inl z
 have:=hS b E
 rcases zG.1 z with rfl|z;omega;rcases zD.1 z with z|z
 have:=n1 b z;omega
 have:=n2 b z;omega
 rcases zG.1 z with rfl|z;omega;rcases zD.1 z with z|z
 have:=n1 b z;omega
 have:=n2 b z;omega
end
abbrev MKT:TypeId:=255
def markV (pb:Nat) (turn:Int) (wk:List Value):List Value:=[.pointer (pW pb),.i turn]++wk
def MarkAt (w:World) (S:List Nat) (h pb:Nat) (q:PgM):Prop:=
 ∃fb defb mb u y z,w.heap[h]?=some (.cells (markV pb q.turn (workV (pW fb) (pW defb) (some mb) q.roots)).toArray MKT (0,0))/\WorkAt w S fb defb mb u y z q/\h∉S
theorem MarkAt.frame{w w':World}{S S':List Nat}{u pb:Nat}{q:PgM}(h:MarkAt w S u pb q)(f:Fr S w w')(z:∀b∈S',b∈S\/w.heap.size<=b):MarkAt w' S' u pb q:=by obtain⟨fb,defb,mb,C,E,G,y,I,A⟩:=h;exact⟨fb,defb,mb,C,E,G,by rw[f.block u (qac y) A];exact y,I.frame f z,fun J=>(z u J).elim A fun K=>by have:=qac y;omega⟩
theorem qwu:((prog.info? MKT).bind (·.zero)).map (fun z=>z.cells.toList)=some ([Value.pointer none,.i 0]++workV none none none (zs 24)):=by kernel_rfl
theorem qrM{p:Option Addr}{t:Int}{x y:Option Addr}{m:Option Nat}{roots:List Int}(E:roots.length=24)(w:World): (Instr.build MKT #[(0,.pointer p),(1,.i t),(2,.agg (workV x y m roots).toArray)]).run prog w=.ok (.agg ([Value.pointer p,.i t]++workV x y m roots).toArray) w:=by
 obtain⟨z,G,h⟩:=yS.1 qwu;have u:z.cells=([Value.pointer none,.i 0]++workV none none none (zs 24)).toArray:=(by rw[<- h]);have C:=qau (x:=x) (y:=y) (m:=m) E;refine qcI (parts:=[(0,.pointer p),(1,.i t),(2,.agg (workV x y m roots).toArray)]) (offs:=#[(0,1),(1,1),(2,27)]) G oK (fun w=>oK) ?_ w;have I:(Value.agg (workV x y m roots).toArray).cells.size=27:=(by show (workV x y m roots).toArray.size=27;rw[size_toArray,C]);rw[u,qaB (o:=0) (s:=1) rfl rfl (zO rfl),qaB (o:=1) (s:=1) rfl rfl (zO rfl),qaB (o:=2) (s:=27) rfl I (zO rfl)];refine congrArg some ?_
 have:=qa3 (A:=[Value.pointer p,.i t]) (X:=workV none none none (zs 24)) (Z:=[]) (Y:=workV x y m roots) (by rw[C,qau (qaG 24)])
 rw[xF,xF] at this;exact this
section
variable {w:World} {X:List Nat} {pb:Nat} {db:Option Addr} {F:List Nat} {M:PgM}
theorem quE{sup:Sup}{sl sn:Sl}{turn:Int}{over:Bool}{fb defb mb:Nat}{roots:List Int}(u:sup.2.length=27)(y:roots.length=24):((pgCells db sup sl sn turn over fb defb mb roots).toList.drop 33).take 27=workV (pW fb) (pW defb) (some mb) roots:=by have h:((Value.pointer db::supV sup.1 sup.2)++([sl.v,sn.v,.i turn,.bool over]:List Value)).length=33:=(by rw[zF,qaZ u];rfl);rw[<- qbp];show (((Value.pointer db::supV sup.1 sup.2)++([sl.v,sn.v,.i turn,.bool over]:List Value)++workV (pW fb) (pW defb) (some mb) roots).drop 33).take 27=_;rw[<- h,drop_left,zS (by rw[qau y];exact zM _)]
theorem PgX.work{fb defb mb:Nat}{sl sn:Sl}{F1 F2:List Nat}{y:List (Int×Leaf)}(u:PgX w X pb db M fb defb mb sl sn F1 F2 y):WorkAt w [] fb defb mb F1 F2 y M:=
 ⟨u.free,u.deferred,u.map,u.fresh,fun e A=>(u.rows.bodies e A).weak oL,fun b z h=>(nomatch h),⟨fun h=>(u.sep.2.1 mb h).2.1 rfl,fun h=>(u.sep.2.2 mb h).2 rfl,fun b z h=>(u.sep.2.1 b z).2.2 h⟩,u.rootlen⟩
theorem qtY{K:Option Addr->WP}(h:PagerAt w X pb db F M)(U:M.free.length<=1000000)(V:M.deferred.length<=1000000)(aa:M.over=true->K none w)(hk:M.over=false->∀A w',MarkAt w' (X++F) A pb M->Fr [] w w'->K (pW A) w'): cW 104 [.pointer (pW pb)] [.one .ptr] w K:=by
 have G:=h.lt;have z:∀b∈X,b<w.heap.size:=by obtain⟨fb,defb,mb,sl,sn,F1,F2,fs,rfl,u⟩:=h;exact u.xlt
 obtain⟨fb,defb,mb,sl,sn,F1,F2,fs,rfl,u⟩:=h;refine qhT ?_;unfold qej;refine qae (qag u.cell M.over (qcH u.suplen) ?_);refine qaa (fun ho=>aa (oP ho)) (fun ho=>?_);have I:=u.frame0 (Fr.refl [] w).drew;have fd:Fr [] w w.drew:=(Fr.refl [] w).drew;generalize World.drew w=wd at I fd;refine qae (qag I.cell M.turn (qmq u.suplen) ?_);refine qae ?_;simp only[xO];refine qaX I.cell (workV (pW fb) (pW defb) (some mb) M.roots) (qau u.rootlen) (quE u.suplen u.rootlen)<|qmM I.work U V (fun J y O ad ae w2 E f2 n2=>?_) (fun b Q=>nomatch Q);have h2:=I.frame0 f2;refine qai (by show _=_;rw[qah h2.cell];exact qmq u.suplen)<|qaJ (ts:=[Ty1.raw]) (markV pb M.turn (workV (pW J) (pW y) (some O) M.roots)) (qrM u.rootlen w2)<|oB (oE [] w2) fun A w3 e3 R af=>?_;have C:=fd.trans f2;refine hk (oP ho) A w3 ⟨J,y,O,ad,ae,fs,af.at (i:=0) rfl,?_,fun hm=>?_⟩ (C.trans R);have Q:∀b∈X++pb::mb::(F1++F2),b<w.heap.size:=fun b Q=>(zD.1 Q).elim (z b) (G b);refine⟨E.free.frame R fun _ _ h=>(nomatch h),E.deferred.frame R fun _ _ h=>(nomatch h),E.map.frame R fun h=>(nomatch h),E.fresh,fun e he=>(u.rows.bodies e he).frame0 (C.trans R),fun b ah hm=>?_,E.apart,E.roots⟩
 have:=n2 b ah
 have:=Q b hm
 have:=fd.size
 omega;have:A<w.heap.size:=(zD.1 hm).elim (z A) (G A)
 have:=C.size
 omega
theorem qtR{S:List Nat}{m:Option Addr}{q:PgM}(h:PagerAt w X pb db F M)(hS:∀b∈X++F,b∈S)(hm:m≠none->∃kb,m=pW kb/\MarkAt w S kb pb q/\q.free.length<=1000000/\q.deferred.length<=1000000)(av:M.over=true->K 7 w)(aw:M.over=false->(m=none\/q.turn≠M.turn)->K 10 w.drew)(hk:M.over=false->m≠none->q.turn=M.turn->∀F' w',PagerAt w' X pb db F' { M with free:=q.free,deferred:=q.deferred,fresh:=q.fresh,roots:=q.roots }->Fr F w w'->(∀b∈F',b∈F\/w.heap.size<=b)->K 0 w'): cW 105 [.pointer (pW pb),.pointer m] [.one .i] w K:=by
 obtain⟨fb,defb,mb,sl,sn,F1,F2,fs,rfl,E⟩:=h;refine qhN ?_;unfold qed;refine qae (qag E.cell M.over (qcH E.suplen) ?_);refine qaa (fun ho=>av (oP ho)) (fun ho=>?_);have ho:M.over=false:=(oP ho);refine qaf (fun b w'=>b=decide (m=none\/q.turn≠M.turn)/\w'=w.drew) ?_ ?_;cases m with
 | none=>exact cond_true rfl ⟨oL,rfl⟩
 | some a=>
  obtain⟨kb,e,hM,_⟩:=hm oL;obtain rfl:=yN e;obtain⟨J,z,O,ah,ai,ad,U,hW,_⟩:=hM;refine cond_false rfl<|qae (qag (w:=w.drew) (c:=.ptr) U (pW pb) rfl ?_);refine qvI (d:=98) oK oK oK<|cond_false rfl<|qae (qag (w:=w.drew) (c:=.i) U q.turn rfl ?_);refine qae (qag (w:=w.drew) (c:=.i) E.cell M.turn (qmq E.suplen) ?_);refine⟨?_,rfl⟩;by_cases e:q.turn=M.turn;simp[e];simp[e]
 rintro b w1 ⟨rfl,rfl⟩;apply qaa<;>intro U;exact aw ho (zC U);have U:=zB U;have aj:m≠none:=fun e=>U (.inl e);have ay:q.turn=M.turn:=Classical.byContradiction fun e=>U (.inr e);obtain⟨kb,rfl,hM,az,aA⟩:=hm aj;obtain⟨J,z,O,ah,ai,ad,aB,hW,_⟩:=hM;have fd:Fr [] w w.drew:=(Fr.refl [] w).drew;have ak:=E.frame0 fd;have al:w.drew.heap[kb]?=some (.cells (markV pb q.turn (workV (pW J) (pW z) (some O) q.roots)).toArray MKT (0,0)):=aB;have A:=hW.frame (S':=S) (fd.mono fun b u=>nomatch u) fun b u=>.inl u;have sd:w.drew.heap.size=w.heap.size:=rfl;generalize World.drew w=wd at ak al A fd sd;refine qae ?_;have am:=qau (x:=pW J) (y:=pW z) (m:=some O) hW.roots;refine qaX (off:=0+2) al (workV (pW J) (pW z) (some O) q.roots) am (by show (workV (pW J) (pW z) (some O) q.roots).take 27=_;rw[zS (Nat.le_of_eq am)]) ?_;have aC:WorkAt wd [] J z O ah ai ad q:=⟨A.free,A.deferred,A.map,A.fresh,fun e he=>(A.bodies e he).weak oL,fun b u h=>(nomatch h),A.apart,A.roots⟩;refine qmM aC az aA (fun an R C G1 G2 w2 G f2 n2=>?_) (fun b u=>nomatch u);have h2:=ak.frame0 f2;refine qae (qaP (qau hW.roots) ?_);have aE:Own [pb] w2 w2 [(pb,.cells (pgCells db M.sup sl sn M.turn M.over fb defb mb M.roots) PGT (0,0))]:=⟨by simpa using h2.cell,oL,.refl _ _,oL⟩;refine oG aE 0 rfl (pgCells db M.sup sl sn M.turn M.over an R C q.roots) (by rw[<- qbp,<- qbp];exact qpn E.suplen (by rw[qau E.rootlen,qau hW.roots])) (qnE _ _ _ _) (by rw[qmp E.suplen,qau hW.roots,E.rootlen];exact zO rfl) fun w3 aG f3=>?_;have aH:=fd.trans f2;have I:∀b∈C::(G1++G2),w.heap.size<=b:=fun b u=>by have:=n2 b u;omega
 have aT:=qac E.cell;have Q:∀b∈C::(G1++G2),b∉[pb]:=fun b u hm=>by have:=I b u;rw[zE.1 hm] at this;omega
 have V:Fr [pb] w w3:=(aH.mono fun b u=>nomatch u).trans f3;have aq:∀b∈X,b<w.heap.size:=E.xlt;have ae:∀b∈X++pb::C::(G1++G2),b∈X++pb::mb::(F1++F2)\/w.heap.size<=b:=fun b u=>by rcases zD.1 u with u|u;exact .inl (zH _ u);rcases zG.1 u with rfl|u;exact .inl (zI _ oL);exact .inr (I b u)
 have ac:Fr (X++pb::mb::(F1++F2)) w w3:=V.mono fun b u _=>by rw[zE.1 u];exact zI _ oL
 refine hk ho aj ay (pb::C::(G1++G2)) w3 ⟨an,R,C,sl,sn,G1,G2,ad,rfl,{
  cell:=aG.at (i:=0) rfl
  free:=G.free.frame f3 fun b u=>Q b (by simp[u])
  deferred:=G.deferred.frame f3 fun b u=>Q b (by simp[u])
  map:=G.map.frame f3 (Q C oL)
  fresh:=G.fresh
  rows:=⟨E.rows.lists.frame ac ae,E.rows.named.frame ac ae,fun e he=>?_⟩
  xlt:=fun b u=>yC (aq b u) V.size
  xsep:=fun b u hm=>?_
  sep:=⟨fun e=>Q C oL (by simp[e]),fun b u=>⟨fun e=>Q b (by simp[u]) (by simp[e]),fun e=>G.apart.1 (e▸u),G.apart.2.2 b u⟩,fun b u=>⟨fun e=>Q b (by simp[u]) (by simp[e]),fun e=>G.apart.2.1 (e▸u)⟩⟩
  suplen:=E.suplen
  rootlen:=hW.roots }⟩ (V.mono fun b u _=>by rw[zE.1 u];simp) fun b u=>?_
 have aI:=hW.bodies e he;refine aI.frame (V.mono fun b u _=>by rw[zE.1 u];exact hS pb (zI _ oL)) fun b u=>?_;rcases ae b u with u|u;exact .inl (hS b u);exact .inr u;rcases zG.1 hm with rfl|hm;exact E.xsep b u oL
 have:=I b hm;have:=aq b u;omega
 rcases zG.1 u with rfl|u;exact .inl oL;exact .inr (I b u)
end
end
end
section
open Go Go.Pt List
open Go.IntKind (wrap)
open Classical
attribute [local irreducible] ld ldA ldV fld fldA newZ st new idx idxS idxA slc slcS slcP mkS chk nn call callV inv run runQ runU join loop held ext rng undefer s2a nxt ent IntKind.wrap
variable {K:Bool->WP} {ps:Kps} {v:Value}
theorem qqO{i j:Nat}(h:i+j<=10000000:=by omega):wrap .i64 (Int.fdiv (wrap .u64 (wrap .i64 ((i:Int)+(j:Int)))) (2^1))=(((i+j) / 2:Nat):Int):=by have e1:wrap .i64 ((i:Int)+(j:Int))=(i:Int)+(j:Int):=wi' _ oJ;have u:wrap .u64 ((i:Int)+(j:Int))=(i:Int)+(j:Int):=IntWalk.u64_in _ oJ;rw[e1,u,Int.fdiv_eq_ediv_of_nonneg _ oM];have e:((i:Int)+(j:Int)) / 2^1=(((i+j) / 2:Nat):Int):=oJ;rw[e,wi' _ oJ]
theorem qsu{n:Nat}{p:Nat->Bool}{w:World}{K:Int->WP}(A:n<=1000000)(hf:∀y (i:Nat) (R:Bool->WP),Fr [] w y->i<n->(∀C,Fr [] w C->R (p i) C)->callV prog v [.i i] [.one .bool] y R)(u:∀i j,i<=j->j<n->p i=true->p j=true)(hk:∀(r:Nat) w',r<=n->(∀i,i<r->p i=false)->(∀i,r<=i->i<n->p i=true)->Fr [] w w'->K r w'): cW 113 [.i n,v] [.one .i] w K:=by
 refine qmw ?_;unfold qiN;refine qaj (fun s w'=>∃i j:Nat,s=((i:Int),(j:Int))/\i<=j/\j<=n/\(∀a,a<i->p a=false)/\(∀a,j<=a->a<n->p a=true)/\Fr [] w w') (fun s _=>(s.2-s.1).toNat) ⟨0,n,rfl,oJ,oJ,fun _ h=>absurd h (xU _),fun a E G=>oJ,.refl _ _⟩ ?_;rintro s y ⟨i,j,rfl,ad,I,E,G,U⟩ X V;dsimp only;apply qaa<;>intro J;have ae:i<j:=(by have:=zC J;omega);rw[qqO oJ];refine hf y ((i+j) / 2) _ U oJ fun C z=>?_;cases hp:p ((i+j) / 2);refine cond_true rfl ?_;have e:wrap .i64 ((((i+j) / 2:Nat):Int)+1)=(((i+j) / 2+1:Nat):Int):=(by rw[wi' _ oJ];rfl);rw[e];refine V _ _ ⟨(i+j) / 2+1,j,rfl,oJ,I,fun a O=>?_,G,z⟩ oN;cases Q:p a;rfl
 have:=u a ((i+j) / 2) oJ oJ Q
 rw[hp] at this;exact this.symm;exact cond_false rfl<|V _ _ ⟨i,(i+j) / 2,rfl,oJ,oJ,E,fun a O A=>u _ a O A hp,z⟩ oN;have af:¬i<j:=(by have:=zB J;omega);exact hk i y oJ E (fun a O A=>G a oJ A) U
theorem quZ{n:Nat}{c:Nat->Int}{w:World}{K:Int×Bool->WP}(J:n<=1000000)(hf:∀E (i:Nat) (K':Int->WP),Fr [] w E->i<n->(∀G,Fr [] w G->K' (c i) G)->callV prog v [.i i] [.one .i] E K')(u:∀i j,i<=j->j<n->c j>0->c i>0)(hk:∀(r:Nat) w',r<=n->(∀i,i<r->c i>0)->(∀i,r<=i->i<n->¬c i>0)->Fr [] w w'->K (r,decide (r<n/\c r=0)) w'): cW 116 [.i n,v] [.one .i,.one .bool] w K:=by
 refine qpz ?_;unfold qlT;refine qaj (fun s w'=>∃i j:Nat,s=((i:Int),(j:Int))/\i<=j/\j<=n/\(∀a,a<i->c a>0)/\(∀a,j<=a->a<n->¬c a>0)/\Fr [] w w') (fun s _=>(s.2-s.1).toNat) ⟨0,n,rfl,oJ,oJ,fun _ h=>absurd h (xU _),fun a O Q=>oJ,.refl _ _⟩ ?_;rintro s E ⟨i,j,rfl,af,R,O,Q,U⟩ X hX;dsimp only;apply qaa<;>intro A;have ag:i<j:=(by have:=zC A;omega);rw[qqO oJ];refine hf E ((i+j) / 2) _ U oJ fun G y=>?_;apply qaa<;>intro C;have C:=zC C;have e:wrap .i64 ((((i+j) / 2:Nat):Int)+1)=(((i+j) / 2+1:Nat):Int):=(by rw[wi' _ oJ];rfl);rw[e];exact hX _ _ ⟨(i+j) / 2+1,j,rfl,oJ,R,fun a V=>u a _ oJ oJ C,Q,y⟩ oN;have C:=zB C;exact hX _ _ ⟨i,(i+j) / 2,rfl,oJ,oJ,O,fun a V J aa=>C (u _ a V J aa),y⟩ oN;have ah:¬i<j:=(by have:=zB A;omega);have I:=fun w'=>hk i w' oJ O (fun a V J=>Q a oJ J);apply qaa<;>intro A;have z:i<n:=(by have:=zC A;omega);refine hf E i _ U z fun G y=>?_;have e:(c i==0)=decide (i<n/\c i=0):=by rw[Bool.eq_iff_iff,yO,yM];exact⟨fun h=>⟨z,h⟩,fun h=>h.2⟩
 rw[e];exact I G y;have z:¬i<n:=by have:=zB A;omega
 have:=I E U
 rw[zU (fun h=>z h.1)] at this;exact this
section
variable {S S':List Nat} {w:World} {x:NdC} {n:NodeM} {ks:Sl} {key:Key}
theorem qkf{K:Int×Bool->WP}(hx:NodeR S w x n)(hk:RdB S' w ks key)(hB:IsB key)(hr:Rising n.keys)(hl:n.keys.length<=1000000)(kk:∀w',Fr [] w w'->K (placeV n.keys key,decide (n.keys[placeV n.keys key]?=some key)) w'): cW 74 [.agg (ndV x),ks.v] [.one .i,.one .bool] w K:=by
 obtain⟨h0,O,⟨pk,A,y⟩,_⟩:=hx;refine qnM ?_;unfold qjV;refine oB (oE [] w) fun r1 w1 e1 f1 h=>oB h fun r3 w2 e2 f2 h=>oA h 1 rfl x.2.1 rfl ?_;have E:x.2.1.len=pk.length:=A.len;have ah:n.keys.length=pk.length:=(by rw[<- y,zK]);have u:∀(i:Nat) (hi:i<pk.length),n.keys[i]?=some pk[i].2:=fun i hi=>by rw[<- y,zQ,zA hi];rfl
 rw[E];refine quZ (c:=fun i=>cmpL key (n.keys.getD i [])) oJ (fun w3 i K' V hi Q=>?_) (fun i j aj hj hc=>?_) fun r w' al R U f'=>?_;refine qa2 (lb:=[.pointer (pW r3),.pointer (pW r1)]) rfl oK ?_;have C:=h.frame0 V;refine qky ?_;unfold qgh;have C:=C.drew;refine oA C 0 rfl ks rfl<|oA C 1 rfl x.2.1 rfl<|RdK.get (A.frame0 C.fr) i rfl hi<|qh2 (hk.frame0 C.fr) ((A.frame0 C.fr).2 pk[i] (zW hi)) hB (O.1 _ (yE (u i hi))) ?_;have e:n.keys.getD i []=pk[i].2:=by rw[yQ,u i hi];rfl
 have:=Q w3.drew V.drew
 rw[e] at this;exact this;by_cases hij':i=j;rw[hij'];exact hc;have hi:=u i oJ;have G:=u j hj;rw[yQ,G,xR] at hc;rw[yQ,hi,xR];have h1:KLt pk[j].2 key:=(by unfold KLt;rw[qdm];omega);have I:=qaA (qiH hr oJ hi G) h1;unfold KLt at I;rw[qdm] at I;omega;have hp:placeV n.keys key=r:=qtk oJ (fun i a hi J=>by
  have:=R i hi
  rw[yQ,J,xR,qdm] at this;show cmpL a key<0;omega) fun a J=>by
  have ap:=(zP.1 J).1
  have:=U r (zM _) oJ
  rw[yQ,J,xR,qdm] at this;show ¬cmpL a key<0;omega
 have z:=kk w' (h.fr.trans f');rw[hp] at z;have e:decide (n.keys[r]?=some key)=decide (r<pk.length/\cmpL key (n.keys.getD r [])=0):=by refine decide_eq_decide.2 ⟨fun h=>?_,fun h=>?_⟩;refine⟨by have:=(zP.1 h).1;omega,?_⟩;rw[yQ,h,xR,qic];have I:=h.2;rw[yQ,u r h.1,xR] at I;exact (u r h.1).trans (congrArg some (qid I).symm)
 rw[e] at z;exact z
theorem qob{K:Int->WP}(hx:NodeR S w x n)(hk:RdB S' w ks key)(hB:IsB key)(hr:Rising n.keys)(hl:n.keys.length<=1000000)(kk:∀w',Fr [] w w'->K (kidV n.keys key) w'): cW 73 [.agg (ndV x),ks.v] [.one .i] w K:=by
 obtain⟨h0,O,⟨pk,A,u⟩,_⟩:=hx;refine qqf ?_;unfold qna;refine oB (oE [] w) fun r1 w1 e1 f1 h=>oB h fun r3 w2 V f2 h=>oA h 1 rfl x.2.1 rfl ?_;have E:x.2.1.len=pk.length:=A.len;have ah:n.keys.length=pk.length:=(by rw[<- u,zK]);have y:∀(i:Nat) (hi:i<pk.length),n.keys[i]?=some pk[i].2:=fun i hi=>by rw[<- u,zQ,zA hi];rfl
 rw[E];refine qsu (p:=fun i=>decide (cmpL key (n.keys.getD i [])<0)) oJ (fun w3 i K' f3 hi Q=>?_) (fun i j aj hj G=>?_) fun r w' al R U f'=>?_;refine qa2 (lb:=[.pointer (pW r3),.pointer (pW r1)]) rfl oK ?_;have C:=h.frame0 f3;refine qml ?_;unfold qiw;have C:=C.drew;refine oA C 0 rfl ks rfl<|oA C 1 rfl x.2.1 rfl<|RdK.get (A.frame0 C.fr) i rfl hi<|qh2 (hk.frame0 C.fr) ((A.frame0 C.fr).2 pk[i] (zW hi)) hB (O.1 _ (yE (y i hi))) ?_;have e:n.keys.getD i []=pk[i].2:=(by rw[yQ,y i hi];rfl);have V:decide (cmpL key (n.keys.getD i [])<0)=decide (cmpL key pk[i].2<0):=decide_eq_decide.2 (by rw[e]);rw[<- V];exact Q w3.drew f3.drew;by_cases hij':i=j;rw[<- hij'];exact G;have hi:=y i oJ;have I:=y j hj;have G:=zC G;rw[yQ,hi,xR] at G;refine zZ ?_;rw[yQ,I,xR];exact qaA G (qiH hr oJ hi I);have hp:kidV n.keys key=r:=qvt oJ (fun i a hi J=>by
  have:=zB (R i hi)
  rw[yQ,J,xR] at this;exact this) fun a J=>by
  have ao:=(zP.1 J).1
  have:=zC (U r (zM _) oJ)
  rw[yQ,J,xR] at this;exact this
 have z:=kk w' (h.fr.trans f');rw[hp] at z;exact z
end
section
theorem qjf{p:Prop}{i:Decidable p}(h:p):true=decide p:=by simp[h]
theorem qbx{i:Nat}(h:i<=100000000:=by omega):wrap .i64 ((i:Int)+1)=((i+1:Nat):Int):=by rw[wi' _ oJ];rfl
section
variable {S:List Nat} {w:World} {s:Sl}
theorem qn4{p:Key->Bool}(O:RdK S w s ps)(hl:ps.length<=1000000)(V:∀y (x:Sl×Key) (Q:Bool->WP),Fr [] w y->x∈ps->(∀z,Fr [] w z->Q (p x.2) z)->callV prog v [x.1.v] [.one .bool] y Q)(R:∀w',Fr [] w w'->K ((keyP ps).any p) w'): cW 224 [s.v,v] [.one .bool] w K:=by
 refine qfd ?_;unfold qcL;refine qhl ?_;unfold qdY;have U:=O.len;refine qaj (fun i w'=>∃n:Nat,i=(n:Int)/\n<=ps.length/\((keyP ps).take n).any p=false/\Fr [] w w') (fun i _=>((ps.length:Int)-i).toNat) ⟨0,rfl,yW _,rfl,.refl _ _⟩ ?_;rintro _ y ⟨n,rfl,hn,A,u⟩ X hX;apply qaa<;>intro G;have h:n<ps.length:=(by have:=zC G;omega);refine RdK.get (O.frame0 u) n rfl h<|V y ps[n] _ u (zW h) fun z C=>?_;have E:(keyP ps)[n]?=some ps[n].2:=(by rw[zQ,zA h];rfl);apply qaa<;>intro I;have:(keyP ps).any p=true:=any_eq_true.2 ⟨ps[n].2,yE E,I⟩;show K (decide (((n:Nat):Int)>=0)) z;rw[zZ (show ((n:Nat):Int)>=0 by omega)];rw[<- this];exact R z C;rw[qbx oJ];refine hX _ _ ⟨n+1,rfl,h,?_,C⟩ oJ;rw[take_add_one,E,any_append,A];simpa using I;have J:n=ps.length:=(by have:=zB G;omega);show K (decide ((-1:Int)>=0)) y;rw[zU (show ¬(-1:Int)>=0 by decide)];have:(keyP ps).any p=false:=by rw[<- A,J,zS (by rw[zK];exact zM _)]
 rw[<- this];exact R y u
theorem qn5{l:List Int}{p:Int->Bool}(R:Rd S w s l)(hl:l.length<=1000000)(hf:∀C (x:Int) (U:Bool->WP),Fr [] w C->x∈l->(∀E,Fr [] w E->U (p x) E)->callV prog v [.u x] [.one .bool] C U)(V:∀w',Fr [] w w'->K (l.any p) w'): cW 199 [s.v,v] [.one .bool] w K:=by
 refine qfe ?_;unfold qcM;refine qhm ?_;unfold qdZ;have aa:=R.1;refine qaj (fun i w'=>∃n:Nat,i=(n:Int)/\n<=l.length/\(l.take n).any p=false/\Fr [] w w') (fun i _=>((l.length:Int)-i).toNat) ⟨0,rfl,yW _,rfl,.refl _ _⟩ ?_;rintro _ C ⟨n,rfl,hn,G,h⟩ X hX;apply qaa<;>intro J;have z:n<l.length:=(by have:=zC J;omega);have A:l[n]?=some l[n]:=zA z;refine Rds.get (R.frame0 h) n rfl A (y:=l[n]) rfl<|hf C l[n] _ h (zW z) fun E I=>?_;apply qaa<;>intro O;have:l.any p=true:=any_eq_true.2 ⟨l[n],yE A,O⟩;show K (decide (((n:Nat):Int)>=0)) E;rw[zZ (show ((n:Nat):Int)>=0 by omega)];rw[<- this];exact V E I;rw[qbx oJ];refine hX _ _ ⟨n+1,rfl,z,?_,I⟩ oJ;rw[take_add_one,A,any_append,G];simpa using O;have Q:n=l.length:=(by have:=zB J;omega);show K (decide ((-1:Int)>=0)) C;rw[zU (show ¬(-1:Int)>=0 by decide)];have:l.any p=false:=by rw[<- G,Q,zS (zM _)]
 rw[<- this];exact V C h
theorem qo5{m:Nat}(G:RdK S w s ps)(I:ps.length<=1000000)(J:∀w',Fr [] w w'->K (decide (∀a∈keyP ps,a.length=m)) w'): cW 197 [s.v,.i m] [.one .bool] w K:=by
 refine qpa ?_;unfold qlu;refine oB (oE [] w) fun r1 U e1 C h=>?_;have u:=G.frame0 C;refine qn4 (p:=fun a=>decide (a.length≠m)) u I (fun O x V E Q y=>?_) fun w' R=>?_;refine qa2 (lb:=[.pointer (pW r1)]) rfl oK<|qlv ?_;unfold qhw;refine oA (h.frame0 E) 0 rfl (m:Int) rfl ?_;have z:=(u.2 x Q).1;have e:(!((x.1.len:Int)==(m:Int)))=decide (x.2.length≠m):=by rw[z,Bool.eq_iff_iff];simp;omega
 rw[e];exact y O E;have e:(!((keyP ps).any fun a=>decide (a.length≠m)))=decide (∀a∈keyP ps,a.length=m):=by
  rw[Bool.eq_iff_iff,yM,zT,any_eq_false];constructor;intro h a A
  have:=h a A
  simpa using this;intro h a A;simp[h a A]
 rw[e];exact J w' (C.trans R)
theorem qth(Q:RdK S w s ps)(R:∀a∈keyP ps,IsB a)(hl:ps.length<=1000000)(U:∀w',Fr [] w w'->K (decide (Rising (keyP ps))) w'): cW 198 [s.v] [.one .bool] w K:=by
 refine qnQ ?_;unfold qjZ;have V:=Q.len;have y:∀(i:Nat) (hi:i<ps.length),(keyP ps)[i]?=some ps[i].2:=fun i hi=>by rw[zQ,zA hi];rfl
 refine qaj (fun i w'=>∃n:Nat,i=(n:Int)/\1<=n/\(∀(j:Nat) a b,j+1<n->(keyP ps)[j]?=some a->(keyP ps)[j+1]?=some b->KLt a b)/\Fr [] w w') (fun i _=>((ps.length:Int)-i).toNat) ⟨1,rfl,zM _,fun j a b h=>oJ,.refl _ _⟩ ?_;rintro _ w1 ⟨n,rfl,hn,E,z⟩ X hX;apply qaa<;>intro O;have A:n<ps.length:=(by have:=zC O;omega);have e1:wrap .i64 ((n:Int)-1)=((n-1:Nat):Int):=(by rw[wi' _ oJ];omega);have C:=Q.frame0 z.drew;rw[e1];refine RdK.get C (n-1) rfl oJ<|RdK.get C n rfl A<|qh2 (C.2 ps[n-1] (zW _)) (C.2 ps[n] (zW _)) (R _ (yE (y (n-1) oJ))) (R _ (yE (y n A))) ?_;apply qaa<;>intro G;have G:=zC G;have:¬Rising (keyP ps):=fun hr=>by
  have:=qiH hr (show n-1<n by omega) (y (n-1) oJ) (y n A)
  unfold KLt at this;omega
 have u:=U _ z.drew;rw[zU this] at u;exact u;have G:=zB G;rw[qbx oJ];refine hX _ _ ⟨n+1,rfl,oJ,fun j a b hj J I=>?_,z.drew⟩ oJ;by_cases hjn:j+1<n;exact E j a b hjn J I;obtain rfl:n=j+1:=by omega
 rw[y j oJ] at J;rw[y (j+1) A] at I;cases J;cases I;show cmpL _ _<0;simp only[Nat.add_sub_cancel] at G;omega;have ad:¬n<ps.length:=(by have:=zB O;omega);have:Rising (keyP ps):=qiI fun j a b J I=>E j a b (by
  have:=(zP.1 I).1
  rw[zK] at this;omega) J I
 have u:=U w1 z;rw[zZ this] at u;exact u
theorem qt9{k v:Nat}:caps (k:Int) (v:Int)=(((capsV k v).1:Int),((capsV k v).2:Int)):=by unfold caps capsV;by_cases h:k<1\/k>24\/v>108;rw[if_pos h,iP];rfl;rw[if_neg h,iN];rfl
theorem qgJ{k v:Nat}{w:World}{K:Int×Int->WP}(h:∀w',Fr [] w w'->K (((capsV k v).1:Int),((capsV k v).2:Int)) w'):cW 103 [.i k,.i v] [.one .i,.one .i] w K:=
 quW fun w' u=>by rw[qt9];exact h w' (.of_same u)
theorem qog{x:NdC}{n:NodeM}{k v:Nat}(hx:NodeR S w x n)(h1:n.keys.length<=1000000)(h2:n.vals.length<=1000000)(h3:n.kids.length<=1000000)(kk:∀w',Fr [] w w'->K (decide (rightV n k v)) w'): cW 156 [.agg (ndV x),.i k,.i v] [.one .bool] w K:=by
 obtain⟨h0,ah,⟨pk,aa,z⟩,⟨pv,ac,J⟩,U⟩:=hx;refine qnN ?_;unfold qjW;refine oB (oE [] w) fun r1 w1 e1 f1 h=>qgJ fun w2 f2=>?_;have h:=h.frame0 f2;have l1:pk.length=n.keys.length:=(by rw[<- z,zK]);have l2:pv.length=n.vals.length:=(by rw[<- J,zK]);have n1:x.2.1.len=n.keys.length:=(by rw[aa.len,l1]);have n2:x.2.2.1.len=n.vals.length:=(by rw[ac.len,l2]);have n3:x.2.2.2.len=n.kids.length:=U.1;refine qaf (fun b w'=>b=decide (¬((∀a∈n.keys,a.length=k)/\(∀a∈n.vals,a.length=v)/\Rising n.keys))/\Own [] w w' [(r1,.cells (ndV x) 163)]) ?_ ?_;refine oA h 0 rfl x.2.1 rfl<|qo5 (m:=k) (aa.frame0 h.fr) oJ fun w3 f3=>?_;have h:=h.frame0 f3;rw[z];refine qaa (fun C=>⟨?_,h⟩) (fun C=>?_);have:¬ ∀a∈n.keys,a.length=k:=zB (oP C);exact qjf fun G=>this G.1;have q1:∀a∈n.keys,a.length=k:=zC (oP C);refine oA h 0 rfl x.2.2.1 rfl<|qo5 (m:=v) (ac.frame0 h.fr) oJ fun w4 f4=>?_;have h:=h.frame0 f4;rw[J];refine qaa (fun C=>⟨?_,h⟩) (fun C=>?_);have:¬ ∀a∈n.vals,a.length=v:=zB (oP C);exact qjf fun G=>this G.2.1;have q2:∀a∈n.vals,a.length=v:=zC (oP C);refine oA h 0 rfl x.2.1 rfl<|qth (aa.frame0 h.fr) (by rw[z];exact ah.1) oJ fun w5 f5=>?_;have h:=h.frame0 f5;rw[z];refine⟨?_,h⟩;rw[Bool.eq_iff_iff,zT,decide_eq_false_iff_not,yM];exact⟨fun G g=>G g.2.2,fun G g=>G ⟨q1,q2,g⟩⟩;rintro b w3 ⟨rfl,h⟩;have V:∀ {w'},¬rightV n k v->Fr [] w w'->K false w':=fun hn f=>by
  have:=kk _ f
  rw[zU hn] at this;exact this
 refine qaa (fun C=>V (fun A=>zC C ⟨A.1,A.2.1,A.2.2.1⟩) h.fr) (fun C=>?_);have hq:=Classical.not_not.1 (zB C);have u:rightV n k v↔(if n.leaf then n.kids=[]/\1<=n.keys.length/\n.keys.length<=(capsV k v).1/\n.vals.length=n.keys.length
   else (∀x∈n.kids,2<=x)/\n.vals=[]/\2<=n.kids.length/\n.kids.length<=(capsV k v).2/\n.keys.length+1=n.kids.length):=⟨fun A=>A.2.2.2,fun G=>⟨hq.1,hq.2.1,hq.2.2,G⟩⟩
 refine oA h 0 rfl x.1 rfl ?_;apply qaa<;>intro C;rw[h0] at C;rw[if_pos C] at u;have ab:∀ {Q:Sl->Prop},Q x.2.1->ld .slice ⟨r1,1,none⟩ w3 Q:=fun q=>oA h 0 rfl x.2.1 rfl q;refine oA h 0 rfl x.2.2.2 rfl<|qaa (fun I=>?_) (fun I=>V (fun A=>?_) h.fr);refine ab (qaa (fun O=>?_) (fun O=>V (fun A=>?_) h.fr));refine ab (qaa (fun E=>?_) (fun E=>V (fun A=>?_) h.fr));refine oA h 0 rfl x.2.2.1 rfl (ab ?_);have I:=yO.1 I;have O:=zC O;have E:=zC E;have e:((x.2.2.1.len:Int)==(x.2.1.len:Int))=decide (rightV n k v):=by rw[Bool.eq_iff_iff,yO,yM,u];dsimp only at E;constructor;intro G;exact⟨eq_nil_of_length_eq_zero oJ,oJ,oJ,oJ⟩;intro G;omega
 rw[e];exact kk w3 h.fr
 have:=(u.1 A).2.2.1
 have E:=zB E;dsimp only at E;omega
 have:=(u.1 A).2.1
 have O:=zB O;omega
 have:=(u.1 A).1
 have I:=zR.1 I;rw[this] at n3;exact I (by rw[n3];rfl);rw[h0] at C;rw[if_neg (by rw[C];decide)] at u;have R:∀ {w'} {Q:Sl->Prop},Own [] w w' [(r1,.cells (ndV x) 163)]->Q x.2.2.2->ld .slice ⟨r1,3,none⟩ w' Q:=fun h q=>oA h 0 rfl x.2.2.2 rfl q;refine R h<|qn5 (p:=fun y=>decide (y<2)) (U.frame0 h.fr) h3 (fun w4 y K' f4 hy al=>?_) fun w4 f4=>?_;refine qa2 (lb:=[]) rfl oK<|qkz ?_;unfold qgi;exact al w4 f4;have h:=h.frame0 f4;refine qaa (fun c0=>V (fun A=>?_) h.fr) (fun c0=>?_);obtain⟨y,hy,an⟩:=any_eq_true.1 c0
 have:=(u.1 A).1 y hy
 have:=zC an
 omega;have ae:∀y∈n.kids,2<=y:=fun y hy=>by
  have:=any_eq_false.1 c0 y hy
  simp at this;exact this
 refine oA h 0 rfl x.2.2.1 rfl<|qaa (fun I=>?_) (fun I=>V (fun A=>?_) h.fr);refine R h (qaa (fun O=>?_) (fun O=>V (fun A=>?_) h.fr));refine R h (qaa (fun E=>?_) (fun E=>V (fun A=>?_) h.fr));refine oA h 0 rfl x.2.1 rfl (R h ?_);have I:=yO.1 I;have O:=zC O;have E:=zC E;dsimp only at E;have ew:wrap .i64 ((x.2.2.2.len:Int)-1)=(x.2.2.2.len:Int)-1:=wi' _ oJ;have e:((x.2.1.len:Int)==wrap .i64 ((x.2.2.2.len:Int)-1))=decide (rightV n k v):=by rw[ew,Bool.eq_iff_iff,yO,yM,u];constructor;intro G;exact⟨ae,eq_nil_of_length_eq_zero oJ,oJ,oJ,oJ⟩;intro G;omega
 rw[e];exact kk _ h.fr
 have:=(u.1 A).2.2.2.1
 have E:=zB E;dsimp only at E;omega
 have:=(u.1 A).2.2.1
 have O:=zB O;omega
 have:=(u.1 A).2.1
 have I:=zR.1 I;rw[this] at n2;exact I (by rw[n2];rfl)
end
end
end
end Go.Proofs.YtgjidjnaigkdfaaGreatDoor
