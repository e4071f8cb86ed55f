/- Conditions: those that stand in each line. -/
import Derived.Test.YtgjidjnaigkdfaaGreatDoorCAV5
import Derived.Test.YtgjidjnaigkdfaaGreatDoorCAV4
import Derived.Test.YtgjidjnaigkdfaaGreatDoorCAV2
import Derived.Test.YtgjidjnaigkdfaaGreatDoorCAV3
set_option linter.unusedVariables false
set_option linter.unusedSimpArgs false
set_option linter.defProp false
namespace Go.Proofs.YtgjidjnaigkdfaaGreatDoor
section
open Go Go.Pt List
open Go.IntKind (wrap)
open Classical
attribute [local irreducible] ld ldA ldV fld fldA newZ st new idx idxS idxA slc slcS slcP mkS chk nn call callV inv run runQ runU join loop held ext rng undefer s2a nxt ent IntKind.wrap
variable {K:Int->WP}
section
variable {dbk pb j:Nat} {FD Y F F' T:List Nat} {D:DiskM} {w0 w w':World} {M M':PgM} {k v b:Nat} {t:Int}
def qpL{fv:Value}{R:Int×PgM}(E:TW dbk pb FD D j w0 Y F M)(aw:0<=(rootM M t).2.2/\(rootM M t).2.2<=1000000)(ho:M.over=false)(hR:R.1≠0->Gd M b R.2/\M.free.length<2*(rootM M t).2.2.toNat+1)(J:∀w1 (K1:Int->WP),Fr [] w0 w1->(∀F' w',TW dbk pb FD D j w' Y F' R.2->Fr F w1 w'->(∀b∈F',b∈F\/w1.heap.size<=b)->K1 R.1 w')->callV Tryz.prog fv [] [.one .i] w1 K1)(kk:∀F' w',TW dbk pb FD D j w' Y F' (if R.1=0 then R.2 else M)->Fr F w0 w'->(∀b∈F',b∈F\/w0.heap.size<=b)->K R.1 w'): cW 64 [.agg (wkV (wkX k v pb t)),fv] [.one .i] w0 K:=by
 refine qi1 ?_;unfold qe8;have g:=Sg.start F w0;have h:=oE [] w0;refine oB h fun q1 ay _ _ h=>?_;have h:=oF h;refine oA h 0 rfl (pW pb) rfl<|oA h 0 rfl (pW pb) rfl<|oA h 0 rfl t rfl<|TW.room (E.now0 h)<|qaq (h.cell 0 rfl rfl) (h.cell 0 rfl rfl)<|TW.root (E.now0 h) fun af ag=>?_;have h:=h.frame0 ag;have hx:decide ((M.free.length:Int)>wrap .i64 (2*wrap .i64 (rootM M t).2.2))=decide (2*(rootM M t).2.2.toNat+1<=M.free.length):=by rw[wi' (rootM M t).2.2 oJ,wi' (2*(rootM M t).2.2) oJ];exact decide_eq_decide.2 oJ
 apply qaa<;>intro u;rw[hx] at u;have u:=zC u;have G:R.1=0:=Classical.byContradiction fun y=>by have:=(hR y).2;omega
 rw[if_pos G] at kk;exact J af K h.fr fun F' w' ah f' n'=>kk F' w' ah ((h.fr.mono fun _ h=>nomatch h).trans f') fun b z=>(n' b z).imp id (zL h.fr.size);have hl:=E.wf.all;refine oA h 0 rfl (pW pb) rfl ?_;have O:=E.frame0 h.fr;refine qtY O.pager oJ oJ (fun y=>by rw[ho] at y;cases y) fun _ kb ai hm aj=>?_;have h:=h.frame0 aj;have ak:∀b∈bks [(q1,Obj.cells (wkV (wkX k v pb t)) WK (0,0))],b∉F:=fun b z=>(E.now0 h).yf b (zH _ z);refine J ai _ h.fr fun F' Q A C U=>?_;have f0:Fr F w0 Q:=(h.fr.mono fun _ h=>nomatch h).trans C;have n0:∀b∈F',b∈F\/w0.heap.size<=b:=fun b z=>(U b z).imp id (zL h.fr.size);have h:=qaT h C ak;refine qaf (fun _ w'=>∃I,TW dbk pb FD D j w' Y I (if R.1=0 then R.2 else M)/\Fr F w0 w'/\∀b∈I,b∈F\/w0.heap.size<=b) ?_ ?_;refine qaf (fun q w'=>q = !(R.1==0)/\w'=Q) ?_ ?_;apply qaa<;>intro u;exact⟨u.symm,rfl⟩;exact⟨u.symm,rfl⟩;rintro q w' ⟨rfl,rfl⟩;apply qaa<;>intro u;have G:R.1≠0:=by rw[zT] at u;exact zR.1 u
 have hg:=(hR G).1;rw[if_neg G];refine oA h 0 rfl (pW pb) rfl<|qtR (S:=Zo FD Y F') (q:=M) A.pager (fun b z=>z) (fun _=>⟨kb,rfl,hm.frame (C.mono fun b z _=>zoF z) (TW.znew U),oJ,oJ⟩) (fun y=>by rw[hg.over] at y;cases y) (fun _ y=>y.elim (fun h2=>nomatch h2) fun h2=>absurd hg.turn.symm h2) fun _ _ _ I w2 V f2 n2=>?_;rw[hg.back ho] at V;exact⟨I,A.next (ho.trans hg.over.symm) E.wf V f2,f0.trans' f2 n0,fun b z=>(n2 b z).elim (n0 b) fun y=>.inr (zL f0.size y)⟩;have G:R.1=0:=by rw[yD] at u;exact yO.1 u
 refine⟨F',?_,f0,n0⟩;rw[if_pos G];exact A;rintro _ ap ⟨I,aq,f2,n2⟩;exact kk I ap aq f2 n2
def qu8{ks vs:Sl}{key val:Key}{f:Nat}(C:IsB key)(E:IsB val)(hs:shp t=((k:Int),(v:Int)))(G:k≠0)(ab:key.length=k)(I:val.length=v)(hT:TW dbk pb FD D j w0 Y F M)(U:RdB (Zo FD Y F) w0 ks key)(V:RdB (Zo FD Y F) w0 vs val)(J:0<=(rootM M t).2.2/\(rootM M t).2.2<=1000000)(ho:M.over=false)(hR:(insertN D k v t key val f M).1≠0->Gd M b (insertN D k v t key val f M).2/\M.free.length<2*(rootM M t).2.2.toNat+1)(O:(rootM M t).1≠0->(putN D k v key val f M (rootM M t).1).1.2≠-1)(kk:∀F' w',TW dbk pb FD D j w' Y F' (if (insertN D k v t key val f M).1=0 then (insertN D k v t key val f M).2 else M)->Fr F w0 w'->(∀b∈F',b∈F\/w0.heap.size<=b)->K (insertN D k v t key val f M).1 w'): cW 28 [.pointer (pW pb),.i t,ks.v,vs.v] [.one .i] w0 K:=by refine qqr ?_;unfold qnB;have ag:=U.1;have Q:=V.1;have g:=Sg.start F w0;have h:=oE [] w0;refine oB h fun r1 w2 _ _ h=>oB h fun r3 w4 _ _ h=>oA h 1 rfl ks rfl<|qkh (k:=k) (v:=v) hs (fun h=>absurd h G) (fun _ h=>absurd oJ h) fun _ _ w7 f7=>?_;have h:=h.frame0 f7;refine oB h fun r8 w9 _ _ h=>oD h 0 rfl (wkV (wkX k v pb t)) fun ak h _=>cond_false rfl<|oA h 1 rfl vs rfl<|oA h 0 rfl (v:Int) rfl<|cond_false (by rw[Q,I];simp)<|oC h 0 rfl (wkX k v pb t) rfl ?_;have u:=hT.now0 h;have y:=qbL U h;have z:=qbL V h;refine qpL u J ho hR (fun w1 K1 A k1=>?_) fun F' w' R f' n'=>kk F' w' (R.drop0) ((h.fr.mono fun _ h=>nomatch h).trans f') fun b hb=>(n' b hb).imp id (zL h.fr.size);refine qa2 (lb:=[.pointer (pW r8),.pointer (pW r1),.pointer (pW r3)]) rfl oK<|qmA ?_;unfold qiW;have h:=h.frame0 A;exact oC h 0 rfl (wkX k v pb t) rfl<|oA h 2 rfl ks rfl<|oA h 1 rfl vs rfl<|qrD C E (u.frame0 A) (y.frame0 A) (z.frame0 A) O k1
def qqt{ks:Sl}{key:Key}{f f2:Nat}(C:IsB key)(E:CapsOk k v)(hs:shp t=((k:Int),(v:Int)))(G:k≠0)(Q:key.length=k)(hT:TW dbk pb FD D j w0 Y F M)(R:RdB (Zo FD Y F) w0 ks key)(U:0<=(rootM M t).2.2/\(rootM M t).2.2<=1000000)(ho:M.over=false)(I:(getN D k v key M f2 (rootM M t).1).2≠-1)(V:∀w',(getN D k v key M f2 (rootM M t).1).2≠0->Fr [] w0 w'->K (getN D k v key M f2 (rootM M t).1).2 w')(hR:(getN D k v key M f2 (rootM M t).1).2=0->cutSafe D k v key f M (rootM M t).1/\((removeN D k v t key f M).1≠0->Gd M b (removeN D k v t key f M).2/\M.free.length<2*(rootM M t).2.2.toNat+1))(kk:(getN D k v key M f2 (rootM M t).1).2=0->∀F' w',TW dbk pb FD D j w' Y F' (if (removeN D k v t key f M).1=0 then (removeN D k v t key f M).2 else M)->Fr F w0 w'->(∀b∈F',b∈F\/w0.heap.size<=b)->K (removeN D k v t key f M).1 w'): cW 35 [.pointer (pW pb),.i t,ks.v] [.one .i] w0 K:=by
 refine qqp ?_;unfold qnz;have ai:=R.1;have h:=oE [] w0;refine oB h fun r1 w2 _ _ h=>oA h 0 rfl ks rfl<|qkh (k:=k) (v:=v) hs (fun h=>absurd h G) (fun _ h=>absurd oJ h) fun _ _ w7 f7=>?_;have h:=h.frame0 f7;refine oB h fun r8 w9 _ _ h=>oD h 0 rfl (wkV (wkX k v pb t)) fun al h _=>cond_false rfl<|oA h 1 rfl ks rfl<|qu0 (f:=f2) C hs G Q (hT.now0 h) (qbL R h) I fun s ab _ y=>?_;have u:=(hT.now0 h).frame0 y;have J:=(qbL R h).frame0 y;have h:=h.frame0 y;apply qaa<;>intro z;have O:(getN D k v key M f2 (rootM M t).1).2≠0:=by dsimp only at z;rw[zT] at z;exact zR.1 z
 exact V ab O h.fr;have O:(getN D k v key M f2 (rootM M t).1).2=0:=by dsimp only at z;rw[yD] at z;exact yO.1 z
 obtain⟨A,hR⟩:=hR O;refine oC h 0 rfl (wkX k v pb t) rfl<|qpL u U ho hR (fun w1 K1 f1 k1=>?_) fun F' w' ad f' n'=>kk O F' w' (ad.drop0) ((h.fr.mono fun _ h=>nomatch h).trans f') fun b hb=>(n' b hb).imp id (zL h.fr.size);refine qa2 (lb:=[.pointer (pW r8),.pointer (pW r1)]) rfl oK<|qmz ?_;unfold qiV;have h:=h.frame0 f1;exact oC h 0 rfl (wkX k v pb t) rfl<|oA h 1 rfl ks rfl<|qr4 C E (u.frame0 f1) (J.frame0 f1) A k1
end
end
section
open Go Go.Pt List
open Go.IntKind (wrap)
open Classical
attribute [local irreducible] ld ldA ldV fld fldA newZ st new idx idxS idxA slc slcS slcP mkS chk nn call callV inv run runQ runU join loop held ext rng undefer s2a nxt ent IntKind.wrap
end
section
open Go Go.Pt List
open Go.IntKind (wrap)
open Classical
attribute [local irreducible] ld ldA ldV fld fldA newZ st new idx idxS idxA slc slcS slcP mkS chk nn call callV inv run runQ runU join loop held ext rng undefer s2a nxt ent IntKind.wrap
def qvr{k v:Key}{l:Prs}(h:SortP l):(insP k v l).length<=l.length+1:=by by_cases hm:k∈keysP l;rw[qb5 h hm];omega;rw[qb4 hm];omega
def qvd{k:Key}{l:Prs}:(cutP k l).length<=l.length:=length_filter_le _ _
def qv4(n:Nat):IsB (zs n):=fun x h=>by rw[(mem_replicate.1 h).2];decide
structure HiI (k v c:Nat) (t:Int) (w0 w:World) (s:Sl) (m:Nat) (dbk pb:Nat) (FD:List Nat) (D:DiskM) (F:List Nat) (M:PgM) (P:List Int) (L:Prs) (B:List Nat):Prop where
 tw:TW dbk pb FD D 5000 w [] F M
 sole:Sole D M k v c t L P
 buf:Buf encPr 2 w s L B
 len:L.length<=m
 fr:Fr [] w0 w
 new:∀ b∈FD++F,w0.heap.size<=b
 apart:∀ b∈B,b∉F
section
variable {k v c:Nat} {t:Int} {w0 w:World} {s:Sl} {m:Nat} {dbk pb:Nat} {FD F B:List Nat} {D:DiskM} {M:PgM} {P:List Int} {L:Prs}
end
def quT{S:List Nat}{w:World}{v:Nat}{c:Int}{K:Sl->WP}(A:c=v)(Q:v<=1000000)(C:∀b∈S,b<w.heap.size)(E:∀s w',RdB S w' s (zs v)->Fr [] w w'->(∀G:List Nat,(∀b∈G,b<w.heap.size)->RdB G w' s (zs v))->K s w'): mkS 5 [.b 0] 1 1 c c w K:=by
 subst A;refine Own.mkN (oE [] w) rfl oJ (Int.le_refl _) oJ oJ fun b w' e u=>?_;rw[zJ] at u⊢;have I:=u.at (i:=0) rfl;have h:∀G:List Nat,(∀b∈G,b<w.heap.size)->RdB G w' ⟨pW b,v,v⟩ (zs v):=fun G J=>by
  refine⟨by simp[zs],zM _,.inr ⟨b,0,_,_,_,rfl,I,fun O=>by have:=J b O;omega,fun i x z=>?_⟩⟩;have hi:i<v:=(by have:=(zP.1 z).1;simpa[zs] using this);have y:x=0:=by
   have:=yE z
   exact (mem_replicate.1 this).2
  subst y;have e1:(List.replicate v [Value.int .u8 0]).flatten=List.replicate v (Value.int .u8 0):=oL;rw[e1];simp[drop_replicate,take_replicate];show List.replicate (min 1 (v-i)) _=_;rw[show min 1 (v-i)=1 by omega];rfl
 exact E _ w' (h S C) u.fr h
end
section
open Go Go.Pt List
open Go.IntKind (wrap)
open Classical
attribute [local irreducible] ld ldA ldV fld fldA newZ st new idx idxS idxA slc slcS slcP mkS chk nn call callV inv run runQ runU join loop held ext rng undefer s2a nxt ent IntKind.wrap
end
section
open Go Go.Pt List
open Go.IntKind (wrap)
open Classical
attribute [local irreducible] ld ldA ldV fld fldA newZ st new idx idxS idxA slc slcS slcP mkS chk nn call callV inv run runQ runU join loop held ext rng undefer s2a nxt ent IntKind.wrap
variable {D:DiskM} {w:World}
abbrev WCT:TypeId:=40
abbrev Sls:=Nat->Sl
def wcA (d p:Nat) (a b:Sls):Array Value:=#[.pointer (pW d),.pointer (pW p),elSl (a 0),elSl (a 1),elSl (a 2),elSl (a 3),elSl (a 4),elSl (a 5),elSl (a 6),elSl (a 7),elSl (b 0),elSl (b 1),elSl (b 2),elSl (b 3),elSl (b 4),elSl (b 5),elSl (b 6),elSl (b 7)]
def updS {α:Type} (a:Nat->α) (t:Nat) (s:α):Nat->α:=fun u=>if u=t then s else a u
def qrI{M:PgM}{k:Nat}(h:Lim D k)(u:M.Wf)(R:M.sup.2.getD 0 0<=300)(U:k<=900000):Lim (commitM D M).1.1 (k+700):=by
 have few:∀l:List Int,l.Nodup->(∀x∈l,2<=x/\x<M.sup.2.getD 0 0)->l.length<=300:=fun l I O=>by rcases qbK I O with h|h;omega;rw[h];exact yW _
 have z:=u.keysNodup;have J:(freshW M.fresh).length<=300:=by unfold freshW;rw[zK,(qfW z).length_eq];exact few _ z u.keys
 have E:∀x∈freshW M.fresh,IsB x.2:=fun x G=>by
  obtain⟨n,I,rfl⟩:=mem_map.1 G;unfold leafOf;split;rename_i q Q
  have:=u.body _ (qaY Q).2
  exact qcJ this.1 this.2.2;exact qcJ ⟨oM,oM⟩ fun _ h=>nomatch h
 have A:∀pages named next,pages.length<=300->Lim (flushM D M.fresh pages named next).1 (k+700):=fun pages named next K=>
  Lim.then ((Lim.writes' h oJ E).mono (k':=k+300) oJ) oJ fun V J=>Lim.then ((Lim.spread J oJ).mono (k':=k+600) oJ) oJ fun D2 E=>(Lim.sealOk E oJ).mono oJ
 unfold commitM;split;exact h.mono oJ;split;exact h.mono oJ;cases K:planM M with
 | none=>exact h.mono oJ
 | some y=>
  obtain⟨pages,named⟩:=y;have C:pages.length<=300:=by
   obtain⟨j,_,_,rfl,_⟩:=qet K;rw[yK]
   have:=few M.free (u.freeS.imp fun h=>oJ) fun x G=>u.range x (zH _ G)
   omega
  dsimp only;split;exact A _ _ _ C;exact A _ _ _ C
structure Wm (w0 w:World) (r b q dbk pb:Nat) (FD F:List Nat) (D:DiskM) (M:PgM) (ns ws:Sls) (N W:Nat->Prs) (Fo Wa:Trees):Prop where
 tw:TW dbk pb FD D (5000+700*q) w [r] F M
 wo:Wo D M b q Fo Wa
 cell:w.heap[r]?=some (.cells (wcA dbk pb ns ws) WCT (0,0))
 now:∀ t,t<8->Rds encPr 2 (Zo FD [r] F) w (ns t) (N t)
 was:∀ t,t<8->Rds encPr 2 (Zo FD [r] F) w (ws t) (W t)
 okN:∀ t,t<8->PrB (N t)/\(N t).length<=q
 okW:∀ t,t<8->PrB (W t)/\(W t).length<=q
 okT:∀ t,t<8->(Fo t).1.length<=q/\(Wa t).1.length<=q
 new:∀ x∈r::(FD++F),w0.heap.size<=x
 hg:HG<w0.heap.size
 fr:Fr [] w0 w
section
variable {w0 w w':World} {r b q q' dbk pb:Nat} {FD F FD' F':List Nat} {D D':DiskM} {M M':PgM} {ns ws ns' ws':Sls} {N W N' W':Nat->Prs} {Fo Wa Fo' Wa':Trees}
end
section
def qsx{l:Key}{K:Sl->WP}(h:IsB l)(k:∀s w',(∀G:List Nat,(∀b∈G,b<w.heap.size)->RdB G w' s l)->Fr [] w w'->K s w'):Pt.run [Ty1.one Cell.slice] ((convert 9 27 (.string (strL l))).run Tryz.prog w) K:=
 qty (e:=5) h oK oK oK k
section
variable {w0 w w':World} {r b q dbk pb:Nat} {FD F:List Nat} {D:DiskM} {M:PgM} {ns ws:Sls} {N W:Nat->Prs} {Fo Wa:Trees}
end
end
section
def qrr{dbk pb j q:Nat}{FD Y F:List Nat}{M:PgM}{K:Int->WP}(h:TW dbk pb FD D (5000+700*q) w Y F M)(U:q<=1000)(J:0<=M.turn/\M.turn<=1000000000)(u:M.sup.2.getD 0 0<=300)(z:HG∉FD)(O:∀FD' F' w',TW dbk pb FD' (commitM D M).1.1 (5000+700*(q+1)) w' Y F' (commitM D M).1.2->Fr (FD++F) w w'->(∀b∈FD'++F',b∈FD++F\/w.heap.size<=b)->K (commitM D M).2 w'): cW 20 [.pointer (pW pb)] [.one .i] w K:=by
 have A:HG∈FD++HG::Y:=oL;have C:HG∉F:=h.pager.sep HG A;refine qpQ h.disk h.lim h.pager (fun b u=>zH _ u) h.wf oJ J h.hv z fun FD' F' w' Q V R E=>?_;have I:∀b∈FD'++F',b∈FD++F\/w.heap.size<=b:=E.2;refine O FD' F' w' ⟨Q,(qrI h.lim h.wf u oJ).mono oJ,R.weakX fun b u=>?_,h.hv.frame E.1 (fun G=>(zD.1 G).elim z C),qsA h.wf,fun b u=>⟨fun G=>?_,(h.sep b u).2⟩⟩ E.1 I;rcases zD.1 u with u|u;exact zH _ u;refine zI _ (zI _ u);rcases I b (zH _ G) with y|y;rcases zD.1 y with y|y;exact (h.sep b u).1 y;exact h.yf b u y
 have:=h.ylt b u;omega
def qsv{dbk pb j:Nat}{FD Y F:List Nat}{M:PgM}{K:Unit->WP}(h:TW dbk pb FD D j w Y F M)(z:0<=M.turn/\M.turn<=1000000000)(u:M.over=false)(A:(baseM (M.turn+1) M).Wf)(C:∀F' w',TW dbk pb FD D j w' Y F' (baseM (M.turn+1) M)->Fr F w w'->(∀b∈F',b∈F\/w.heap.size<=b)->K () w'): cW 29 [.pointer (pW pb)] [] w K:=
 qsl h.pager z (by have:=h.wf.named4;omega) fun F' w' y f n=>by rw[u,qin h.wf.namedS] at y;exact C F' w' (h.next (M':=baseM (M.turn+1) M) u.symm A y f) f n
section
variable {w0 w w':World} {r b q dbk pb:Nat} {FD F:List Nat} {D:DiskM} {M:PgM} {ns ws:Sls} {N W:Nat->Prs} {Fo Wa:Trees}
end
end
section
section
variable {w0 w w':World} {r b q n dbk pb:Nat} {FD F:List Nat} {D:DiskM} {M:PgM} {ns ws:Sls} {N W:Nat->Prs} {Fo Wa:Trees} {ks vs:Sl} {key val:Key}
end
end
section
section
variable {w0 w w':World} {r b q n dbk pb:Nat} {FD F:List Nat} {D:DiskM} {M:PgM} {ns ws:Sls} {N W:Nat->Prs} {Fo Wa:Trees} {ks vs:Sl} {key val:Key}
end
end
section
section
variable {k v c:Nat} {t:Int} {w0 w:World} {s:Sl} {m:Nat} {dbk pb:Nat} {FD F B:List Nat} {D:DiskM} {M:PgM} {P:List Int} {L:Prs}
end
end
end
section
open Go Go.Pt List
open Go.IntKind (wrap)
open Classical
attribute [local irreducible] ld ldA ldV fld fldA newZ st new idx idxS idxA slc slcS slcP mkS chk nn call callV inv run runQ runU join loop held ext rng undefer s2a nxt ent IntKind.wrap
end
section
open Go Go.Pt List
open Go.IntKind (wrap)
open Classical
attribute [local irreducible] ld ldA ldV fld fldA newZ st new idx idxS idxA slc slcS slcP mkS chk nn call callV inv run runQ runU join loop held ext rng undefer s2a nxt ent IntKind.wrap
variable {D:DiskM} {F FD:List Nat} {K:(Int×Int×Int×Int×Int×Int×Int×Int×Int×Int×Int×Int×Int)×Int->WP} {M:PgM} {dbk i t:Nat} {ks:List (List Int×Prs)} {n:NodeM} {w:World}
abbrev Op12:=Int×Int×Sl×Sl×Bool
def few (h:List Op12):Prop:=h.length<=300/\∀o∈h,o.2.2.1.len<=100/\o.2.2.2.1.len<=200
section
variable {w0 w w':World} {r b q n dbk pb:Nat} {FD F:List Nat} {D:DiskM} {M:PgM} {ns ws:Sls} {N W:Nat->Prs} {Fo Wa:Trees}
end
def qmV{α β:Type}{f:α->List β}{ks:List α}(hi:i<ks.length):(ks.take (i+1)).flatMap f=(ks.take i).flatMap f++f ks[i]:=by rw[yF hi,yP,yG,flatMap_nil,xF]
def qgU{α β:Type}{f:α->List β}{ks:List α}(hi:i<ks.length):ks.flatMap f=(ks.take i).flatMap f++(f ks[i]++(ks.drop (i+1)).flatMap f):=by conv=>lhs;rw[<- xC i ks,zX hi,yP,yG]
def qiT{es:List Ent}(hi:i+1<es.length):((es.map (·.1)).tail).getD i []=es[i+1].1:=by rw[yQ,List.getElem?_tail,zQ,zA hi];rfl
section
abbrev BDT:TypeId:=197
section
variable {S S':List Nat} {w w':World} {s s0 s1:Sl} {a lo hi:Key}
def Bnd (S:List Nat) (w:World) (s:Sl) (a:Key):Prop:=(s.a=none/\a=[])\/(s.a≠none/\a≠[]/\RdB S w s a/\IsB a)
def Bnd.frame(h:Bnd S w s a)(f:Fr S w w')(u:∀b∈S',b∈S\/w.heap.size<=b):Bnd S' w' s a:=h.imp id fun⟨y,z,A,C⟩=>⟨y,z,A.frame f u,C⟩
def Bnd.frame0(h:Bnd S w s a)(f:Fr [] w w'):Bnd S w' s a:=h.imp id fun⟨u,y,z,A⟩=>⟨u,y,z.frame0 f,A⟩
def Bnd.of(h:RdB S w s a)(y:IsB a)(u:a≠[]):Bnd S w s a:=by obtain⟨x,l,rfl⟩:=exists_cons_of_ne_nil u;obtain⟨_,b,o,e,_⟩:=Rds.at h 0 rfl;exact .inr ⟨by rw[e];exact (fun h=>nomatch h),u,h,y⟩
def qq2{p:Option Addr}(h:p≠none):p.isNone=false:=by cases p<;>simp at h⊢
def qv3{k:Key}{ks:Sl}{K:Bool->WP}(I:Bnd S w s0 lo)(J:Bnd S w s1 hi)(A:RdB S' w ks k)(C:IsB k)(u:KLe lo k/\(hi=[]\/KLt k hi))(E:∀w',Fr [] w w'->K true w'): cW 134 [.agg #[s0.v,s1.v],ks.v] [.one .bool] w K:=by
 refine qhI ?_;unfold qd9;refine oB (oE [] w) fun r y _ h z=>oA z 0 rfl s0 rfl ?_;have G:ld Cell.slice ⟨r,1,none⟩ y fun O=>cond (Option.isNone O.a) (K true y) (ld Cell.slice ⟨r,1,none⟩ y fun Q=>cW 115 [ks.v,Q.v] [.one .i] y fun x w'=>K (decide (x<0)) w'):=by refine oA z 0 rfl s1 rfl ?_;rcases J with ⟨e1,_⟩|⟨e1,R,U,V⟩;exact cond_true (by rw[e1];rfl) (E _ h);refine cond_false (qq2 e1) (oA z 0 rfl s1 rfl (qh2 (A.frame0 h) (U.frame0 h) C V ?_));rw[zZ (show cmpL k hi<0 from u.2.resolve_left R)];exact E _ h
 rcases I with ⟨e,_⟩|⟨e,_,g0,b0⟩;exact cond_true (by rw[e];rfl) G;exact cond_false (qq2 e) (oA z 0 rfl s0 rfl (qh2 (A.frame0 h) (g0.frame0 h) C b0 (cond_true (zZ (by have:¬cmpL k lo<0:=u.1;omega)) G)))
def qv7{x:NdC}{K:Sl×Sl->WP}(h0:Bnd S w s0 lo)(h1:Bnd S w s1 hi)(hx:NodeR S w x n)(C:∀a∈n.keys,a≠[])(ag:i<=n.keys.length)(hl:n.keys.length<=1000)(kk:∀u y w',Fr [] w w'->Bnd S w' u (if 0<i then n.keys.getD (i-1) [] else lo)->Bnd S w' y (if i<n.keys.length then n.keys.getD i [] else hi)->K (u,y) w'): cW 94 [.agg #[s0.v,s1.v],.agg (ndV x),.i i] [.agg [.slice,.slice]] w K:=by
 obtain⟨_,E,⟨pk,A,U⟩,_⟩:=hx;have G:pk.length=n.keys.length:=(by rw[<- U,zK]);have V:∀q (I:q<pk.length),Bnd S w pk[q].1 (n.keys.getD q []):=fun q I=>by have e:n.keys[q]?=some pk[q].2:=(by rw[<- U,zQ,zA I];rfl);have hm:pk[q].2∈n.keys:=yE e;rw[yQ,e,xR];exact .of (A.2 _ (zW I)) (E.1 _ hm) (C _ hm)
 refine qhJ ?_;unfold qea;refine oB (oE [] w) fun r1 w2 _ _ h=>oB h fun r3 w4 _ _ h=>oB h fun r5 w6 _ _ h=>qaf (fun _ w'=>∃u,Bnd S w u (if 0<i then n.keys.getD (i-1) [] else lo)/\Own [] w w' [(r5,.cells #[elSl ⟨none,0,0⟩,elSl ⟨none,0,0⟩] BDT (0,0)),(r3,.cells (ndV x) ND (0,0)),(r1,.cells #[elSl u,elSl s1] BDT (0,0))]) ?_ ?_;apply qaa<;>intro z;have J:0<i:=(by have:=zC z;omega);refine oA h 1 rfl x.2.1 rfl (RdK.get (A.frame0 h.fr) (i-1) (by rw[wi' _ oJ];omega) oJ ?_);refine oG h 2 rfl #[elSl pk[i-1].1,elSl s1] rfl rfl (zO rfl) fun w7 h f7=>⟨pk[i-1].1,?_,h⟩;rw[if_pos J];exact V (i-1) oJ;refine⟨s0,?_,h⟩;rw[if_neg (by have:=zB z;omega)];exact h0;rintro _ w7 ⟨u,O,h⟩;refine qaf (fun _ w'=>∃y,Bnd S w y (if i<n.keys.length then n.keys.getD i [] else hi)/\Own [] w w' [(r5,.cells #[elSl ⟨none,0,0⟩,elSl ⟨none,0,0⟩] BDT (0,0)),(r3,.cells (ndV x) ND (0,0)),(r1,.cells #[elSl u,elSl y] BDT (0,0))]) ?_ ?_;refine oA h 1 rfl x.2.1 rfl ?_;rw[A.len,G];apply qaa<;>intro z;have Q:i<n.keys.length:=(by have:=zC z;omega);refine oA h 1 rfl x.2.1 rfl (RdK.get (A.frame0 h.fr) i rfl oJ ?_);refine oG h 2 rfl #[elSl u,elSl pk[i].1] rfl rfl (zO rfl) fun w8 h f8=>⟨pk[i].1,?_,h⟩;rw[if_pos Q];exact V i oJ;refine⟨s1,?_,h⟩;rw[if_neg (by have:=zB z;omega)];exact h1;rintro _ w8 ⟨y,R,h⟩;exact oC h 2 rfl (u,y) rfl<|oD h 0 rfl #[elSl u,elSl y] fun w9 h f9=>oC h 0 rfl (u,y) rfl<|kk u y w9 h.fr (O.frame0 h.fr) (R.frame0 h.fr)
end
abbrev LKT:TypeId:=127
def seenL (S:List Int):List (Int×Value):=S.map fun x=>(x,Value.int .i64 1)
def qlR{S:List Int}{x:Int}(h:x∉S):posOf x (seenL S)=none:=by rw[qbl,qa4];simpa[seenL] using h
def qt3{pb lk m j:Nat}{at_:Int}{ab:Bool}{S0:List Int}{s0 s1:Sl}{lo hi:Key}{K:NdC×Bool->WP}(hT:TW dbk pb FD D j w [m] F M)(ht:t<8)(hc:w.heap[lk]?=some (.cells #[.pointer (pW pb),.map (some m)] LKT (0,0)))(az:lk≠m)(V:MapS u32V w m (seenL S0))(hx:at_∉S0)(hn:NodeOk n (kv t).1 (kv t).2)(aA:U32 at_)(hr:pagerReadM D M at_=(kindN n,bodyN n,0))(h0:Bnd [m] w s0 lo)(h1:Bnd [m] w s1 hi)(aj:∀a∈n.keys,KLe lo a/\(hi=[]\/KLt a hi))(C:ab=true\/(if n.leaf then (capsV (kv t).1 (kv t).2).1 / 2<=n.keys.length else (capsV (kv t).1 (kv t).2).2 / 2<=n.kids.length))(kk:∀x w',Fr [m] w w'->MapS u32V w' m (seenL (S0++[at_]))->NodeR [m] w' x n->K (x,true) w'): cW 93 [.pointer (pW lk),.i t,.u at_,.bool ab,.agg #[s0.v,s1.v]] [.agg [.bool,.slice,.slice,.slice],.one .bool] w K:=by
 have aB:=qg0 ht;have aZ:=qdl (k:=(kv t).1) (v:=(kv t).2);have E:=hn.right;unfold rightV at E;obtain⟨a0,a1,a2,ac⟩:=E;have a3:n.keys.length<=498/\n.kids.length<=498:=by by_cases e:n.leaf=true;rw[if_pos e] at ac;rw[ac.1];simp;omega;rw[if_neg e] at ac;omega
 have aC:wrap .i64 (Int.tdiv ((capsV (kv t).1 (kv t).2).1:Int) 2)=(((capsV (kv t).1 (kv t).2).1 / 2:Nat):Int):=(by rw[Int.tdiv_eq_ediv_of_nonneg oJ,wi' _ oJ];omega);have aD:wrap .i64 (Int.tdiv ((capsV (kv t).1 (kv t).2).2:Int) 2)=(((capsV (kv t).1 (kv t).2).2 / 2:Nat):Int):=(by rw[Int.tdiv_eq_ediv_of_nonneg oJ,wi' _ oJ];omega);have a4:=V.lt;refine qh6 ?_;unfold qeI;refine oB (oE [m] w) fun r1 w2 e1 f2 y=>oB y fun r3 w4 e3 f4 y=>?_;have ad:=f2.trans f4;have l2:=f2.size;refine qoi ?_;rw[aB.1];have R:=(ad.block lk (qac hc) (fun h=>nomatch h)).trans hc;have ae:=V.frame ad (fun h=>nomatch h);refine qae (qag R (some m) rfl ?_);have ak:=qc6 (P:=Tryz.prog) (t:=125) (et:=3) (z:=.i 0) oK (fun w=>oK) qbz ae.at at_;rw[qlR hx] at ak;refine qaJ (ts:=[Ty1.one .i]) (0:Int) ak (cond_false (zU oM) ?_);refine qae (qag R (some m) rfl ?_);obtain⟨o,hu,O⟩:=MapS.new (P:=Tryz.prog) (t:=125) (et:=3) (v:=.i 1) oK qbz ae at_ (qlR hx);refine qgv _ hu ?_;have f5:=qbe ae.lt o;rw[show seenL S0++[(at_,Value.int .i64 1)]=seenL (S0++[at_]) by simp[seenL]] at O;generalize upd w4 m o=w5 at O f5⊢;have y:=y.frame f5 (fun _ h=>.inl h) fun p hp V=>by have V:=zE.1 V;rcases zG.1 hp with rfl|hp;dsimp only at V;omega;rw[zE.1 hp] at V;dsimp only at V;omega
 have aF:TW dbk pb FD D j w5 [m] F M:=(hT.frame0 ad).frameY f5 (fun b I=>by rw[zE.1 I];exact O.lt) fun b I=>.inl I;have aG:=(f5.block lk (qac R) (oP az)).trans R;refine qae (qag aG (pW pb) rfl ?_);refine TW.read aF aA fun s w6 hs f6=>?_;rw[hr] at hs⊢;refine cond_false rfl ?_;have l3:r3<w6.heap.size:=yC (qac (y.at (i:=0) rfl)) f6.size;refine qod (k:=(kv t).1) (v:=(kv t).2) (hs [] (fun _ h=>nomatch h)) (qh8 hn.keys hn.vals) fun x B w7 hN f7 hB=>?_;rw[qlM hn.right hn.kids] at hN⊢;have l6:=yC O.lt f6.size;have hN:NodeR [m,r3] w7 x n:=hN.rd (fun b I h=>by
  have:=hB b I
  rcases zG.1 h with h|h;omega
  have:=zE.1 h;omega) fun b I=>.inl (zH _ (mem_range.2 (by
  rcases zG.1 I with h|h;omega
  have:=zE.1 h;omega)))
 have aH:=O.frame (f6.trans f7) (fun h=>nomatch h);have y:=(y.frame0 f6).frame0 f7;refine oB y fun aI w8 aJ f8 y=>oD y 0 rfl (ndV x) fun w9 y f9=>?_;have al:Fr [] w7 w9:=f8.trans' f9 fun i hi=>.inr (by rw[zE.1 hi,aJ];exact zM _);have am:=hN.frame0 al;have aK:=aH.frame al (fun h=>nomatch h);obtain⟨af,aL,⟨pk,h2,h3⟩,_,h4⟩:=id am;have an:pk.length=n.keys.length:=(by rw[<- h3,zK]);refine cond_false rfl (oA y 0 rfl x.2.1 rfl ?_);rw[h2.len,an];refine upto1 n.keys.length (fun i w'=>Fr [] w9 w') oJ (.refl _ _) ?_;intro i bd X hi Q hX;have G:=y.frame0 Q;apply qaa<;>intro ao;have ag:i<pk.length:=(by have:=zC ao;omega);have ap:pk[i].2∈n.keys:=(by rw[<- h3];exact zY (zW ag));refine RdK.get (h2.frame0 Q) i rfl ag (oC G 2 rfl (s0,s1) rfl ?_);exact qv3 (h0.frame G.fr fun b I=>.inl I) (h1.frame G.fr fun b I=>.inl I) ((h2.2 _ (zW ag)).frame0 Q) (aL.1 _ ap) (aj _ ap) fun aq U=>cond_false rfl (hX _ oJ (Q.trans U));refine qgJ fun aq U=>?_;have y:=G.frame0 U;have aa:=Q.trans U;refine qaf (fun b w'=>(b=false\/ab=true)/\w'=aq) ?_ ?_;refine oA y 0 rfl x.1 rfl ?_;rw[af];by_cases e:n.leaf=true;rw[if_pos e] at C;rw[e];refine cond_true rfl (oA y 0 rfl x.2.1 rfl ?_);rw[h2.len,an,aC];refine qaa (fun h=>⟨C.elim .inr fun h'=>by have:=zC h;omega,rfl⟩) (fun h=>oA y 0 rfl x.1 rfl ?_);rw[af,e];exact cond_false rfl ⟨.inl rfl,rfl⟩;rw[if_neg e] at C;have e:=Bool.not_eq_true _ |>.mp e;rw[e];refine cond_false rfl (oA y 0 rfl x.1 rfl ?_);rw[af,e];refine cond_true rfl (oA y 0 rfl x.2.2.2 rfl ?_);rw[h4.1,aD];exact⟨C.elim .inr fun h'=>.inl (zU oJ),rfl⟩;rintro b w' ⟨I,rfl⟩;refine oC y 0 rfl x rfl ?_;have ar:∀A,Own [m] w A [(aI,.cells (ndV x) ND (0,0)),(r3,.cells (ndV x) ND (0,0)),(r1,.cells #[elSl s0,elSl s1] BDT (0,0))]->Fr [r3] w' A->K (x,true) A:=fun A y J=>
  kk x A y.fr ((aK.frame aa (fun h=>nomatch h)).frame J fun h=>by have:=zE.1 h;omega) ((am.frame0 aa).frame (S':=[m]) (J.mono fun i hi _=>by simp[zE.1 hi]) fun i hi=>.inl (by simp[zE.1 hi]))
 apply qaa<;>intro h;exact oD y 1 rfl (ndV x) fun A y J=>oC y 1 rfl x rfl (ar _ y J);refine oD y 1 rfl (ndV x) fun A y J=>?_;rw[I.resolve_right (by rw[h];decide)];exact oC y 1 rfl x rfl (ar _ y J)
end
abbrev pA (r:Nat):Value:=.pointer (pW r)
def DownOk (z:World) (m r1 A h y:Nat) (level at_:Int) (lo hi:Key) (G:List Int) (L:Prs):Prop:=
 ∀(w:World) (s0 s1:Sl) (S0:List Int) (K:Int×Bool->WP),
  Fr [m] z w->MapS u32V w m (seenL S0)->Bnd [m] w s0 lo->Bnd [m] w s1 hi->(∀x∈G,x∉S0)->L.length<=100000->
  (∀w',Fr [m] w w'->MapS u32V w' m (seenL (S0++G))->K ((L.length:Int),true) w')->
  cW 92 [.u at_,.u level,.agg #[s0.v,s1.v],pA r1,pA A,pA h,pA y] [.one .u,.one .bool] w K
structure DownEnv (wb:World) (pb lk m r1 r3 r11 r21 t:Nat) (H:Int):Prop where
 e0:wb.heap[lk]?=some (.cells #[pA pb,.map (some m)] LKT (0,0))
 e1:∃ T,wb.heap[r1]?=some (.cells #[pA lk] T (0,0))
 e3:∃ T,wb.heap[r3]?=some (.cells #[.i t] T (0,0))
 e11:∃ T a b,wb.heap[r11]?=some (.cells #[.u a,.u b,.u H] T (0,0))
 e21:∃ T,wb.heap[r21]?=some (.cells #[.func (.func 92) #[] #[pA r1,pA r3,pA r11,pA r21]] T (0,0))
 ne:lk≠m/\r1≠m/\r3≠m/\r11≠m/\r21≠m
def qot{wb:World}{pb j lk m r1 r3 U E:Nat}{H level at_:Int}{low high:Key}{pr:Prs}(hT:TW dbk pb FD D j wb [m] F M)(ht:t<8)(hE:DownEnv wb pb lk m r1 r3 U E t H)(hn:NodeOk n (kv t).1 (kv t).2)(aD:U32 at_)(hr:pagerReadM D M at_=(kindN n,bodyN n,0))(bj:1<=level/\level<=1000)(aE:n.leaf=(level==1))(al:level=H\/(if n.leaf then (capsV (kv t).1 (kv t).2).1 / 2<=n.keys.length else (capsV (kv t).1 (kv t).2).2 / 2<=n.kids.length))(am:∀a∈n.keys,KLe low a/\(high=[]\/KLt a high))(aF:n.leaf=true->n=lfOf pr)(an:n.leaf=false->pr=[])(aG:ks.length=n.kids.length)(aH:(at_::ks.flatMap (·.1)).Nodup)(ao:∀i (hi:i<n.kids.length),DownOk wb m r1 r3 U E (level-1) n.kids[i] (if 0<i then n.keys.getD (i-1) [] else low) (if i<n.keys.length then n.keys.getD i [] else high) (ks.getD i ([],[])).1 (ks.getD i ([],[])).2): DownOk wb m r1 r3 U E level at_ low high (at_::ks.flatMap (·.1)) (pr++ks.flatMap (·.2)):=by
 intro w s0 s1 S0 K f0 u h0 h1 hx aI kk;have aK:=qg0 ht;have bk:=qdl (k:=(kv t).1) (v:=(kv t).2);have A:=hn.right;unfold rightV at A;obtain⟨aL,bm,bn,V⟩:=A;have bo:n.keys.length<=498/\n.kids.length<=498:=by by_cases e:n.leaf=true;rw[if_pos e] at V;rw[V.1];simp;omega;rw[if_neg e] at V;omega
 have bp:=u.lt;obtain⟨el,⟨T1,e1⟩,⟨T3,e3⟩,⟨bs,bt,bu,aM⟩,⟨bv,aN⟩,d0,d1,d3,aO,aP⟩:=hE;have bl:∀ {i:Nat} {o:Obj} {w':World},Fr [m] wb w'->wb.heap[i]?=some o->i≠m->w'.heap[i]?=some o:=fun f h hd=>(f.block _ (qac h) (oP hd)).trans h;refine qf2 ?_;unfold qdf;refine oB (oE [m] w) fun r w2 er f2 C=>?_;have G:Fr [m] wb w2:=f0.trans (f2.mono fun _ h=>nomatch h);refine qag (bl G e1 d1) (pW lk) rfl<|qag (bl G e3 d3) (t:Int) rfl<|qag (off:=0+2) (bl G aM aO) H rfl<|oC C 0 rfl (s0,s1) rfl ?_;have aQ:TW dbk pb FD D j w2 [m] F M:=hT.frameY G (fun b I=>by rw[zE.1 I];have:=f2.size;omega) fun b I=>.inl I;refine qt3 aQ ht (bl G el d0) d0 (u.frame f2 (fun h=>nomatch h)) (hx at_ oL) hn aD hr (h0.frame0 f2) (h1.frame0 f2) am (al.imp (fun h=>by rw[h];exact beq_self_eq_true _) id) fun x w8 f8 aR hN=>?_;have C:=C.frame f8 (fun _ h=>.inl h) fun p hp u=>by
  rw[zE.1 hp] at u
  have:=zE.1 u
  dsimp only at this;omega
 refine oB C fun r9 bB e9 aS C=>oD C 0 rfl (ndV x) fun aa C aT=>?_;have ad:Fr [] w8 aa:=aS.trans' aT fun i hi=>.inr (by rw[zE.1 hi,e9];exact zM _);have hN:=hN.frame0 ad;have u:=aR.frame ad (fun h=>nomatch h);obtain⟨ar,bD,⟨pk,h2,h3⟩,_,h4⟩:=id hN;have aU:x.2.1.len=n.keys.length:=(by rw[h2.len,<- h3,zK]);refine qdr false aa (fun M' hM=>?_) ?_;refine cond_false rfl (cond_false (zR.2 oJ) (oA C 0 rfl x.1 rfl ?_));rw[ar,aE];have:(!(level==1)==(level==1))=false:=oL;rw[show (!((level==1)==(level==1)))=false by simp];exact hM;refine cond_false rfl (oA C 0 rfl x.1 rfl ?_);rw[ar];by_cases e:n.leaf=true;have hl:=aF e;have au:ks=[]:=length_eq_zero_iff.1 (by rw[aG,hl];rfl);have aV:n.keys.length=(pr++ks.flatMap (·.2)).length:=(by rw[hl,au];simp[lfOf]);rw[e];refine cond_true rfl (oA C 0 rfl x.2.1 rfl ?_);rw[aU,aV,qaS _];exact kk aa C.fr (by rw[au];exact u);have e:=Bool.not_eq_true _ |>.mp e;have aW:=an e;rw[e];rw[if_neg (by rw[e];decide)] at V;refine cond_false rfl (oA C 0 rfl x.2.2.2 rfl ?_);rw[h4.1];rw[aW,xG] at aI kk;have aX:∀a∈n.keys,a≠[]:=fun a ha h=>by
  have:=aL a ha
  rw[h] at this
  have:=aK.2.2.1
  simp at *;omega
 refine upto n.kids.length (fun i s w'=>s=(((ks.take i).flatMap (·.2)).length:Int)/\Fr [m] aa w'/\MapS u32V w' m (seenL (S0++(at_::(ks.take i).flatMap (·.1))))) oJ ⟨oL,.refl _ _,by simpa using u⟩ ?_;rintro i s ag X hi ⟨rfl,J,O⟩ hX;have Q:Own [m] w ag.drew _:=(C.frame J (fun _ h=>.inl h) fun p hp u=>by have u:=zE.1 u;rcases zG.1 hp with rfl|hp;dsimp only at u;have:=f2.size;have:=f8.size;omega;rw[zE.1 hp] at u;dsimp only at u;omega).drew;apply qaa<;>intro ah;have ai:i<n.kids.length:=(by have:=zC ah;omega);have R:i<ks.length:=oJ;refine Rds.get (y:=n.kids[i]) (h4.frame J fun b I=>.inl I) i rfl (zA ai) rfl ?_;have fb:Fr [m] wb ag.drew:=f0.trans Q.fr;have aj:=bl fb aN aP;refine qag aj (.func (.func 92) #[] #[pA r1,pA r3,pA U,pA E]) rfl<|oC Q 1 rfl (s0,s1) rfl<|oC Q 0 rfl x rfl<|qv7 (h0.frame Q.fr fun b I=>.inl I) (h1.frame Q.fr fun b I=>.inl I) (hN.frame J.drew fun b I=>.inl I) aX oJ oJ fun y0 y1 aY ab aZ a0=>qai (by show _=_;rw[qah ((ab.block E (qac aj) fun h=>nomatch h).trans aj)];rfl)<|qa2 rfl oK ?_;rw[qaS _];have hg:ks.getD i ([],[])=ks[i]:=(by rw[yQ,zA R,xR]);have hk:=ao i ai;rw[hg] at hk;have ae:=qgU (f:=fun x:List Int×Prs=>x.1) R;have av:=congrArg List.length (qgU (f:=fun x:List Int×Prs=>x.2) R);have aw:=qmV (f:=fun x:List Int×Prs=>x.1) R;have af:=congrArg List.length (qmV (f:=fun x:List Int×Prs=>x.2) R);simp only[zF] at av af;refine hk aY y0 y1 (S0++(at_::(ks.take i).flatMap (·.1))) _ (fb.trans (ab.mono fun _ h=>nomatch h)) ((O.frame (Fr.refl [] _).drew (fun h=>nomatch h)).frame ab (fun h=>nomatch h)) aZ a0 (fun z hz u=>?_) oJ fun bM a1 ax=>?_;have ay:z∈ks.flatMap (·.1):=(by rw[ae];simp[hz]);rcases zD.1 u with h|h;exact hx z (zN _ ay) h;have az:=nodup_cons.1 aH;rcases zG.1 h with h|h;exact az.1 (h▸ay);have aA:=az.2;rw[ae,yL] at aA;exact aA.2.2 z h z (zH _ hz) rfl;refine cond_false rfl (hX _ _ ai ⟨?_,(J.drew.trans (ab.mono fun _ h=>nomatch h)).trans a1,?_⟩);dsimp only;rw[qaS _,af];omega;rw[aw,<- xH,<- zV];exact ax;have ei:i=n.kids.length:=(by have:=zB ah;omega);rw[zS oJ] at O⊢;exact kk ag (C.fr.trans J) O
def quf{wb:World}{pb j lk m r1 r3 K O:Nat}{H:Int}(hT:TW dbk pb FD D j wb [m] F M)(ht:t<8)(hE:DownEnv wb pb lk m r1 r3 K O t H)(ho:M.over=false): ∀(h:Nat) (s:Seg) (low high:Key),Has D M (kv t).1 (kv t).2 h s->s.pages.Nodup->h<=900->((h:Int)+1=H\/minOf (kv t).1 (kv t).2 h<=s.size)-> (∀x∈s.prs,KLe low x.1)->(high=[]\/∀x∈s.prs,KLt x.1 high)->DownOk wb m r1 r3 K O ((h:Int)+1) s.page low high s.pages s.prs:=by
 intro h;induction h with
 | zero=>
  rintro s low high ⟨h1,h2,Q,R⟩ E hh G I J;have hu:=qa9 hT.wf (qiF ho (by rw[R]:(pagerReadM D M s.page).2.2=0))
  have:=qot (low:=low) (high:=high) (pr:=s.prs) (ks:=[]) (level:=1) hT ht hE Q ⟨oJ,hu.2⟩ R ⟨oM,oM⟩ rfl (G.imp (fun h=>by simpa using h) fun h=>by rw[h2] at h;simpa[lfOf,minOf] using h) (fun a ha=>by obtain⟨x,A,rfl⟩:=mem_map.1 ha;exact⟨I x A,J.imp id fun h=>h x A⟩) (fun _=>rfl) (fun h=>by cases h) rfl oL (fun i hi=>by simp[lfOf] at hi)
  rw[h1];simpa using this
 | succ h ih=>
  rintro s low high ⟨u,h0,h1,h2,Q,R,h5,h6,h7⟩ E hh G I J;have hu:=qa9 hT.wf (qiF ho (by rw[h5]:(pagerReadM D M s.page).2.2=0));have U:∀e∈u,e.2.prs≠[]:=fun e he=>(h7 e he).1.ne;have aA:=rightV.innerTwo R.right;have C:∀e∈u,∀x∈e.2.prs,x∈s.prs:=fun e he x A=>by rw[h2];exact yJ.2 ⟨e,he,A⟩
  have V:=pairwise_iff_getElem.1 h6.pair;have aa:∀i (hi:i+1<u.length),KLe low u[i+1].1/\(high=[]\/KLt u[i+1].1 high):=fun i hi=>by obtain⟨x,A⟩:=exists_mem_of_ne_nil _ (U u[0] (zW oJ));obtain⟨y,hy⟩:=exists_mem_of_ne_nil _ (U u[i+1] (zW hi));have al:=(V 0 (i+1) oJ hi oJ).2 x A;have am:=h6.low _ (zW hi) y hy;refine⟨fun hk=>I x (C _ (zW _) x A) (qaA al hk),J.imp id fun h=>qgd am (h y (C _ (zW _) y hy))⟩
  have aw:((u.map (·.1)).tail).length=u.length-1:=by simp
  have:=qot (low:=low) (high:=high) (pr:=[]) (ks:=u.map fun e=>(e.2.pages,e.2.prs)) (level:=((h+1:Nat):Int)+1) hT ht hE R ⟨oJ,hu.2⟩ h5 ⟨oJ,oJ⟩
   (by show false=(((h+1:Nat):Int)+1==1);rw[eq_comm,zR];omega)
   (G.imp id fun h=>by rw[h1] at h;simpa[inOf,minOf] using h) (fun a ha=>by
    obtain⟨i,hi,rfl⟩:=getElem_of_mem ha;have z:i+1<u.length:=(by have:i<((u.map (·.1)).tail).length:=hi;omega);have e:(inOf u).keys[i]=u[i+1].1:=by
     have:=qiT z
     rw[yQ,zA (show i<((u.map (·.1)).tail).length from hi),xR] at this;exact this
    rw[e];exact aa i z) (fun h=>by cases h) (fun _=>rfl) (by simp[inOf]) (by rw[Q] at E;simpa[flatMap_map] using E) (fun i hi=>by
    have z:i<u.length:=(by simpa[inOf] using hi);have ek:(inOf u).kids[i]=u[i].2.page:=(by simp[inOf]);have eg:(u.map fun e=>(e.2.pages,e.2.prs)).getD i ([],[])=(u[i].2.pages,u[i].2.prs):=(by rw[yQ,zQ,zA z];rfl);have hm:=h7 _ (zW z);rw[ek,eg,show ((h+1:Nat):Int)+1-1=(h:Int)+1 by omega];have ab:u[i].2.pages.Nodup:=(by rw[Q] at E;have h:=(nodup_cons.1 E).2;rw[qgU (f:=fun e:Ent=>e.2.pages) z,yL,yL] at h;exact h.2.1.1);refine ih u[i].2 _ _ hm.1 ab oJ (.inr hm.2) (fun x A=>?_) ?_;split;obtain⟨q,rfl⟩:∃q,i=q+1:=⟨i-1,oJ⟩;rw[Nat.add_sub_cancel,show (inOf u).keys.getD q []=u[q+1].1 from qiT z];exact h6.low _ (zW z) x A;exact I x (C _ (zW z) x A);split;rename_i hq;have ac:i+1<u.length:=(by have:i<((u.map (·.1)).tail).length:=hq;omega);rw[show (inOf u).keys.getD i []=u[i+1].1 from qiT ac];exact .inr fun x A=>(V i (i+1) z ac oJ).2 x A;exact J.imp id fun h x A=>h x (C _ (zW z) x A))
  rw[Q,h2];simpa[flatMap_map] using this
abbrev RTT:TypeId:=34
def qt4{pb j G m:Nat}{S0 P:List Int}{L:Prs}{K:Int×Bool->WP}(hT:TW dbk pb FD D j w [m] F M)(ht:t<8)(I:w.heap[G]?=some (.cells #[pA pb,.map (some m)] LKT (0,0)))(ad:G≠m)(hm:MapS u32V w m (seenL S0))(ho:M.over=false)(am:TreeIs D M (kv t).1 (kv t).2 t L P)(an:P.Nodup)(hx:∀x∈P,x∉S0)(hL:L.length<=1000)(hP:P.length<=300)(kk:∀w',Fr [m] w w'->MapS u32V w' m (seenL (S0++P))->K ((L.length:Int),true) w'): cW 57 [pA G,.i t] [.one .u,.one .bool] w K:=by
 have aD:=hm.lt;refine qh7 ?_;unfold qeJ;refine oB (oE [m] w) fun r1 w2 e1 f2 h=>oB h fun r3 w4 e3 f4 h=>?_;have h:=h.drew;have C:Fr [] w w4.drew:=(f2.trans f4).drew;have E:=(C.block G (qac I) fun h=>nomatch h).trans I;have af:=hT.frame0 C;have hG:∀y A,Own [m] w A [(y,.cells #[.u 0,.u 0,.u 0] RTT (0,0)),(r3,.cells #[.i t] 3 (0,0)),(r1,.cells #[pA G] 124 (0,0))]->Fr [] w A->w.heap.size<=y->qbv K y (rootM M t) A r1 r3:=by
  intro y A h z aG;unfold qbv;refine oD h 0 rfl #[.u (rootM M t).1,.u (rootM M t).2.1,.u (rootM M t).2.2] fun aH h ag=>oA h 0 rfl (rootM M t).1 rfl ?_;have J:=(hm.frame z fun h=>nomatch h).frame ag fun h=>by have:=zE.1 h;omega
  rcases am with ⟨e,rfl,rfl⟩|⟨R,q,p,hp,e,O⟩;rw[e];refine cond_true rfl (oC h.drew 0 rfl (0,0,0) (by rw[e];rfl) ?_);exact qoB 2 oM true oK oK<|kk _ h.fr.drew (by rw[xF];exact J);have ap:=qvl R _ O;have aI:R<9:=by rcases Nat.lt_or_ge R 9 with h|h;exact h;have:2^10<=2^(R+1):=Nat.pow_le_pow_right oM oJ;dsimp only at ap;omega
  rw[e];refine cond_false (zR.2 hp)<|oB h fun U aJ aK aq h=>oG h 0 rfl #[.func (.func 92) #[] #[pA r1,pA r3,pA y,pA U]] rfl rfl (zO rfl) fun V h ar=>oA h 0 rfl (.func (.func 92) #[] #[pA r1,pA r3,pA y,pA U]) rfl<|oA h 1 rfl p (by rw[e];rfl) (oA h 1 rfl ((R+1:Nat):Int) (by rw[e];rfl) ?_);refine qa2 rfl oK ?_;have aL:=z.size;have aM:=ag.size;have Q:=(J.frame aq fun h=>nomatch h).frame ar fun h=>by have:=zE.1 h;omega
  have ah:TW dbk pb FD D j V [m] F M:=hT.frameY h.fr (fun b hb=>by rw[zE.1 hb];exact Q.lt) fun b hb=>.inl hb;have hE:DownEnv V pb G m r1 r3 y U t ((R+1:Nat):Int):=⟨(h.fr.block G (qac I) (oP ad)).trans I,⟨_,h.at (i:=3) rfl⟩,⟨_,h.at (i:=2) rfl⟩,⟨_,_,_,by have:=h.at (i:=1) rfl;rw[e] at this;exact this⟩,⟨_,h.at (i:=0) rfl⟩,ad,oJ,by have:=f2.size;omega,oJ,oJ⟩;refine quf ah ht hE ho R ⟨p,q,L,P⟩ [] [] O an oJ (.inl rfl) (fun x _=>qez _) (.inl rfl) V ⟨none,0,0⟩ ⟨none,0,0⟩ S0 _ (.refl _ _) Q (.inl ⟨rfl,rfl⟩) (.inl ⟨rfl,rfl⟩) hx oN fun aO av ai=>?_;have h:=h.frame av (fun _ h=>.inl h) fun p hp hm=>by
   have hm:=zE.1 hm
   have:=f2.size
   simp only[set_cons_zero,set_cons_succ,zG,xT,or_false] at hp;rcases hp with rfl|rfl|rfl|rfl<;>dsimp only at hm<;>omega
  refine cond_true rfl (oA h.drew 1 rfl (L.length:Int) (by rw[e];rfl) ?_);dsimp only;rw[beq_self_eq_true];exact kk _ h.fr.drew ai
 refine⟨?_,?_⟩;refine oA h 1 rfl (pW G) rfl (qae (qag E (pW pb) rfl ?_));refine oA h 0 rfl (t:Int) rfl (TW.root af fun aP aa=>?_);refine oB (h.frame0 aa) fun y A ab z h=>?_;have f:=aa.trans z;refine qam (h.cell 1 rfl rfl) (by show _=_;rw[qah ((f.block G (qac E) fun h=>nomatch h).trans E)];rfl) (h.cell 2 rfl rfl) (hG y A h (C.trans f) (by rw[ab];exact (C.trans aa).size));refine oA h 1 rfl (pW G) rfl (qae (qag E (pW pb) rfl ?_));refine oA h 0 rfl (t:Int) rfl<|oB h fun y A ab z h=>?_;have aj:=(z.block G (qac E) fun h=>nomatch h).trans E;refine qam (h.cell 1 rfl rfl) (by show _=_;rw[qah aj];rfl) (h.cell 2 rfl rfl) (TW.root (af.frame0 z) fun aw ak=>hG y aw (h.frame0 ak) ((C.trans z).trans ak) (by rw[ab];exact C.size))
def qsa{α:Type}[DecidableEq α]{P:Program}{kv:α->Value}{t ty kt et:TypeId}{b:Nat}{f:List (α×Value)}(u:P.underlying t=some (.map kt et))(h:MapS kv w b f):(Builtin.len_ #[t] ty #[.map (some b)]).run P w=.ok (.i f.length) w:=by obtain⟨y,c,z,A,_⟩:=h;have:y.size=f.length:=(by have:=congrArg List.length A;simpa using this);simp[Builtin.len_,run_underlying u,Go.MapKept.run_getObj_map z,goInt,this]
abbrev RPT:TypeId:=62
abbrev RepH:=Int×Int×Int×Int×Int
def repA (h:RepH) (c:Nat->Int):Array Value:=#[.int .u64 h.1,.i h.2.1,.i h.2.2.1,.i h.2.2.2.1,.i h.2.2.2.2,.u (c 0),.u (c 1),.u (c 2),.u (c 3),.u (c 4),.u (c 5),.u (c 6),.u (c 7)]
def repX (h:RepH) (c:Nat->Int):HL qbW:=(h.1,h.2.1,h.2.2.1,h.2.2.2.1,h.2.2.2.2,c 0,c 1,c 2,c 3,c 4,c 5,c 6,c 7)
def quL(h:RepH)(c:Nat->Int)(x:Int):∀ {t:Nat},t<8->splice (repA h c) (5+t) [.u x]=repA h (updS c t x)
 | 0,_=>rfl
 | 1,_=>rfl
 | 2,_=>rfl
 | 3,_=>rfl
 | 4,_=>rfl
 | 5,_=>rfl
 | 6,_=>rfl
 | 7,_=>rfl
def qq4(h:RepH)(c:Nat->Int):∀ {t:Nat},t<8->(repA h c)[5+t]?=some (.u (c t))
 | 0,_=>rfl
 | 1,_=>rfl
 | 2,_=>rfl
 | 3,_=>rfl
 | 4,_=>rfl
 | 5,_=>rfl
 | 6,_=>rfl
 | 7,_=>rfl
def cntT (F:Trees) (t u:Nat):Int:=if u<t then ((F u).1.length:Int) else 0
def pgsT (F:Trees) (t:Nat):List Int:=(List.range t).flatMap fun u=>(F u).2
def qo2{F:Trees}{z:Int}:z∈pgsT F t↔∃u,u<t/\z∈(F u).2:=by simp[pgsT]
def qu4{j:Nat}{F:Trees}(hd:DiskAt w dbk FD D)(hl:Lim D j)(hv:Hv w)(aa:openM D=(some M,0))(hW:M.Wf)(ho:M.over=false)(O:For D M F)(Q:2<=M.sup.2.getD 0 0/\M.sup.2.getD 0 0<=300)(ar:M.deferred=[])(hL:∀t:Nat,t<8->(F t).1.length<=1000)(kk:∀w',Fr [] w w'->K (repX (M.sup.1,M.sup.2.getD 0 0,M.sup.2.getD 0 0-2-M.lists.length-M.free.length,M.lists.length,M.free.length) (fun t=>(F t).1.length),0) w'): cW 22 [pA dbk] [.agg qbW,.one .i] w K:=by
 have aI:=hW.all;have J:∀t:Nat,t<8->∀x∈(F t).2,InUse M x:=fun t ht=>(O.tree t ht).used ho;have qn3:∀P:List Int,P.Nodup->(∀x∈P,InUse M x)->P.length<=300:=fun P hP hu=>by rcases qbK hP (fun x R=>qdy hW (hu x R)) with h|h;omega;rw[h];simp
 refine qnH ?_;unfold qjA;refine oB (oE [] w) fun r1 w2 e1 U h=>?_;have l1:=qac (h.at (i:=0) rfl);refine qmG (FD++HG::[]) (fun y hy=>?_) (hd.frame0 U) hl.ok (hv.frame0 U) (fun h'=>by rw[aa] at h';cases h') fun pb F0 M3 w4 hM hp f4 n4=>?_;rcases zD.1 hy with hy|hy;exact (hd.frame0 U).lt y hy;rw[zE.1 hy];exact (hv.frame0 U).lt;rw[aa] at hM;cases hM;have au:TW dbk pb FD D j w4 [] F0 M:=⟨(hd.frame0 U).frame0 f4,hl,by unfold dbOf;rw[ho];exact hp,(hv.frame0 U).frame0 f4,hW,fun _ h=>nomatch h⟩;refine cond_false rfl<|oB (h.frame0 f4) fun m w8 em f8 h=>?_;have G:MapS u32V w8 m (seenL []):=.empty (h.at (i:=0) rfl);have av:TW dbk pb FD D j w8 [m] F0 M:=au.addY (B:=[m]) (f8.mono fun _ h=>nomatch h) fun x R=>by rw[zE.1 R];exact⟨oJ,G.lt⟩
 refine oB (h.sub (sublist_cons_self _ _)) fun lk I el V h=>?_;have aw:lk≠m:=(by have:=G.lt;omega);have A:=av.frame0 V;refine qqw A.pager (qrd A.pager ⟨oJ,oJ⟩ (qso A.pager oJ fun ax aX aY ay E _=>TW.room (A.frame0 E) ?_));have az:ax.len=M.lists.length:=ay.len;refine oB (h.frame0 E) fun rr aZ er aA h=>oG h 0 rfl (repA (M.sup.1,M.sup.2.getD 0 0,0,M.lists.length,M.free.length) (cntT F 0)) (by rw[az];kernel_rfl) rfl (zO rfl) fun aB h ad=>?_;have C:Fr [] I aB:=(E.trans aA).trans' ad fun i hi=>.inr (by rw[zE.1 hi,er];exact E.size);have lm:=G.lt;refine upto1 8 (fun t w'=>Own [] w w' [(rr,.cells (repA (M.sup.1,M.sup.2.getD 0 0,0,M.lists.length,M.free.length) (cntT F t)) RPT (0,0)),(lk,.cells #[pA pb,.map (some m)] LKT (0,0)),(r1,.cells (repA (0,0,0,0,0) fun _=>0) RPT (0,0))]/\Fr [m] I w'/\MapS u32V w' m (seenL (pgsT F t))/\(pgsT F t).Nodup) oM ⟨h,C.mono fun _ h=>(nomatch h),(G.frame V fun h=>nomatch h).frame C (fun h=>nomatch h),.nil⟩ ?_;clear h C ad;rintro t aC X ht ⟨h,ae,hm,af⟩ hX;have lr:I.heap.size<=rr:=(by rw[er];exact E.size);have a3:m<I.heap.size:=yC lm V.size;apply qaa<;>intro hc;have z:t<8:=(by have:=zC hc;omega);have ag:∀x∈(F t).2,x∉pgsT F t:=fun x R hs=>by obtain⟨u,hu,hz⟩:=qo2.1 hs;exact O.apart u t oJ z oJ x hz R
 have hT:TW dbk pb FD D j aC [m] F0 M:=A.frameY ae (fun b Q=>by rw[zE.1 Q];exact hm.lt) fun b Q=>.inl Q;refine qt4 hT z (h.at (i:=1) rfl) aw hm ho (O.tree t z) (O.nodup t z) ag (hL t z) (qn3 _ (O.nodup t z) (J t z)) fun a6 ah ai=>cond_false rfl (qaP ⟨oJ,oJ⟩ ?_);rw[zJ,xP];simp only[Addr.add_mk];have h:=h.frame ah (fun i hi=>.inr (by rw[zE.1 hi,em];exact (U.trans f4).size)) fun p hp hi=>by
  have hi:=zE.1 hi
  have:=f4.size
  dsimp only at l1;simp only[set_cons_zero,set_cons_succ,zG,xT,or_false] at hp;rcases hp with rfl|rfl|rfl<;>dsimp only at hi;omega;omega;omega
 have e:pgsT F (t+1)=pgsT F t++(F t).2:=(by simp[pgsT,range_succ]);refine oG h 0 rfl (repA (M.sup.1,M.sup.2.getD 0 0,0,M.lists.length,M.free.length) (cntT F (t+1))) ?_ rfl (by show 5+t+1<=13;omega) fun a7 h aj=>hX _ z ⟨h,(ae.trans ah).trans' aj (fun i hi=>.inr (by rw[zE.1 hi];exact lr)),?_,?_⟩;refine (quL _ _ _ z).trans (congrArg _ (funext fun u=>?_));unfold updS cntT;by_cases e:u=t;rw[if_pos e,iP,e];rw[if_neg e];by_cases e2:u<t;rw[if_pos e2,iP];rw[if_neg e2,iN];rw[e];exact ai.frame aj fun hi=>by have:=zE.1 hi;omega
 rw[e];exact yL.2 ⟨af,O.nodup t z,fun a ha b Q e=>ag b Q (e▸ha)⟩;have e8:t=8:=(by have:=zB hc;omega);subst e8;have ak:=qua hW Q.1 af fun x=>by rw[qo2];exact⟨fun⟨u,hu,hz⟩=>J u hu x hz,fun R=>O.use x R⟩
 rw[ar,length_nil] at ak;refine oA h 1 rfl (some m) rfl<|qaJ (ts:=[Ty1.one .i]) ((pgsT F 8).length:Int) (by rw[qsa (kt:=32) (et:=3) oK hm,seenL,zK];rfl)<|oG h 0 rfl (repA (M.sup.1,M.sup.2.getD 0 0,(pgsT F 8).length,M.lists.length,M.free.length) (cntT F 8)) oK rfl (zO rfl) fun a' h ba=>oA h 0 rfl ((pgsT F 8).length:Int) rfl (oA h 0 rfl (M.lists.length:Int) rfl (oA h 0 rfl (M.free.length:Int) rfl (oA h 0 rfl (M.sup.2.getD 0 0) rfl ?_)));refine cond_false (by rw[wi' ((pgsT F 8).length+(M.lists.length:Int)) oJ,wi' _ oJ,wi' (M.sup.2.getD 0 0-2) oJ,yD,yO];omega)<|oC h 0 rfl (repX (M.sup.1,M.sup.2.getD 0 0,(pgsT F 8).length,M.lists.length,M.free.length) (cntT F 8)) rfl<|oG h 2 rfl (repA (M.sup.1,M.sup.2.getD 0 0,(pgsT F 8).length,M.lists.length,M.free.length) (cntT F 8)) oK rfl (zO rfl) fun aG h bb=>oC h 2 rfl (repX (M.sup.1,M.sup.2.getD 0 0,(pgsT F 8).length,M.lists.length,M.free.length) (cntT F 8)) rfl ?_;rw[show ((pgsT F 8).length:Int)=M.sup.2.getD 0 0-2-M.lists.length-M.free.length by omega];exact kk aG h.fr
section
structure Aw (w0 w:World) (b q dbk pb:Nat) (FD F:List Nat) (D:DiskM) (M:PgM) (Fo Wa:Trees):Prop where
 tw:TW dbk pb FD D (5000+700*q) w [] F M
 wo:Wo D M b q Fo Wa
 okT:∀ t,t<8->(Fo t).1.length<=q/\(Wa t).1.length<=q
 new:∀ x∈FD++F,w0.heap.size<=x
 hg:HG<w0.heap.size
 fr:Fr [] w0 w
section
variable {w0 w w':World} {b q q' n dbk pb:Nat} {FD F FD' F':List Nat} {D D':DiskM} {M M':PgM} {Fo Wa Fo' Wa':Trees} {ks vs:Sl} {key val:Key}
def Aw.frame0(h:Aw w0 w b q dbk pb FD F D M Fo Wa)(f:Fr [] w w'):Aw w0 w' b q dbk pb FD F D M Fo Wa:=⟨h.tw.frame0 f,h.wo,h.okT,h.new,h.hg,h.fr.trans f⟩
def Aw.hgD(h:Aw w0 w b q dbk pb FD F D M Fo Wa):HG∉FD:=fun u=>by
 have:=h.new HG (by simp[u])
 have:=h.hg
 omega
def Aw.turn(h:Aw w0 w b q dbk pb FD F D M Fo Wa)(y:TW dbk pb FD' D' (5000+700*q') w' [] F' M')(z:Wo D' M' b q' Fo' Wa')(f:Fr (FD++F) w w')(n:∀x∈FD'++F',x∈FD++F\/w.heap.size<=x)(A:∀t,t<8->(Fo' t).1.length<=q'/\(Wa' t).1.length<=q'):Aw w0 w' b q' dbk pb FD' F' D' M' Fo' Wa':=
 ⟨y,z,A,fun x u=>(n x u).elim (h.new x) (zL h.fr.size),h.hg,h.fr.trans' f fun x u=>.inr (h.new x u)⟩
def Aw.turnP(h:Aw w0 w b q dbk pb FD F D M Fo Wa)(u:TW dbk pb FD D (5000+700*q) w' [] F' M')(C:Wo D M' b q Fo' Wa)(f:Fr F w w')(n:∀x∈F',x∈F\/w.heap.size<=x)(E:∀t,t<8->(Fo' t).1.length<=q+1):Aw w0 w' b (q+1) dbk pb FD F' D M' Fo' Wa:=
 h.turn ⟨u.disk,u.lim.mono oJ,u.pager,u.hv,u.wf,u.sep⟩ (C.weak (Nat.le_succ q)) (f.mono fun x y _=>zI _ y) (fun x y=>(zD.1 y).elim (fun z=>.inl (zH _ z)) fun z=>(n x z).imp (fun G=>zI _ G) id) fun t A=>⟨E t A,Nat.le_succ_of_le (h.okT t A).2⟩
def Aw.weak(h:Aw w0 w b q dbk pb FD F D M Fo Wa):Aw w0 w b (q+1) dbk pb FD F D M Fo Wa:=
 ⟨⟨h.tw.disk,h.tw.lim.mono oJ,h.tw.pager,h.tw.hv,h.tw.wf,h.tw.sep⟩,h.wo.weak (Nat.le_succ q),fun t u=>⟨Nat.le_succ_of_le (h.okT t u).1,Nat.le_succ_of_le (h.okT t u).2⟩,h.new,h.hg,h.fr⟩
def Ast (w0 w:World) (b q dbk pb:Nat):Prop:=∃FD F D M Fo Wa,Aw w0 w b q dbk pb FD F D M Fo Wa
def Aw.treePut{K:Int->WP}(h:Aw w0 w b q dbk pb FD F D M Fo Wa)(u:n<8)(hq:q<=900)(y:IsB key)(z:key.length=(kv n).1)(A:IsB val)(C:val.length=(kv n).2)(V:RdB (Zo FD [] F) w ks key)(hv:RdB (Zo FD [] F) w vs val)(Q:∀e w',Ast w0 w' b (q+1) dbk pb->K e w'): cW 28 [.pointer (pW pb),.i n,ks.v,vs.v] [.one .i] w K:=by
 have hr:=(h.wo.now.tree n u).low;have G:=qg0 u;have hL:=(h.okT n u).1;have I:=h.wo.put (key:=key) (val:=val) u ⟨z,y⟩ ⟨C,A⟩ oJ;refine qu8 (b:=b) (f:=(rootM M n).2.2.toNat) y A G.1 oJ z C h.tw V hv oJ h.wo.calm.over (fun R=>?_) (quk ?_) fun F' w' E f U=>?_;rcases I with ⟨_,h2⟩|⟨M',P',e,_⟩;exact h2;rw[e] at R;exact absurd rfl R;rcases I with ⟨e,_⟩|⟨M',P',e,_⟩;rw[e];decide;rw[e];exact (by decide:(0:Int)≠-1);rcases I with ⟨e,_,ac⟩|⟨M',P',e,J,hf⟩;rw[e] at E⊢;exact Q _ w' ⟨_,_,_,_,_,_,h.turnP E h.wo f U fun t O=>Nat.le_succ_of_le (h.okT t O).1⟩;rw[e] at E⊢;refine Q _ w' ⟨_,_,_,_,_,_,h.turnP E J f U fun t O=>?_⟩;by_cases et:t=n;rw[et,qdu]
 have:=qvr (k:=key) (v:=val) (h.wo.now.tree n u).sort.1
 dsimp only;omega;rw[qcK et];exact Nat.le_succ_of_le (h.okT t O).1
def Aw.treeCut{K:Int->WP}(h:Aw w0 w b q dbk pb FD F D M Fo Wa)(E:n<8)(hq:q<=900)(G:IsB key)(I:key.length=(kv n).1)(U:RdB (Zo FD [] F) w ks key)(O:∀e w',Ast w0 w' b (q+1) dbk pb->K e w'): cW 35 [.pointer (pW pb),.i n,ks.v] [.one .i] w K:=by
 have hr:=(h.wo.now.tree n E).low;have z:=qg0 E;have hL:=(h.okT n E).1;have A:=(h.wo.now.tree n E).get (key:=key) h.wo.calm.wf h.wo.calm.over;have C:∀ {w'},Fr [] w w'->Ast w0 w' b (q+1) dbk pb:=fun f=>⟨_,_,_,_,_,_,(h.frame0 f).weak⟩;by_cases hin:key∈keysP (Fo n).1;obtain⟨y,hy⟩:=qsS hin;rw[hy] at A;obtain⟨hs,V⟩:=h.wo.cut E hin oJ;refine qqt (b:=b) (f:=(rootM M n).2.2.toNat) (f2:=(rootM M n).2.2.toNat) G z.2.1 z.1 oJ I h.tw U oJ h.wo.calm.over (by rw[A];exact (by decide:(0:Int)≠-1)) (fun w' u=>absurd (by rw[A]) u) (fun _=>⟨hs,fun u=>?_⟩) fun _ F' w' J f nw=>?_;rcases V with ⟨_,h2⟩|⟨M',P',e,_⟩;exact h2;rw[e] at u;exact absurd rfl u;rcases V with ⟨e,_,ae⟩|⟨M',P',e,Q,hf⟩;rw[e] at J⊢;exact O _ w' ⟨_,_,_,_,_,_,h.turnP J h.wo f nw fun t R=>Nat.le_succ_of_le (h.okT t R).1⟩;rw[e] at J⊢;refine O _ w' ⟨_,_,_,_,_,_,h.turnP J Q f nw fun t R=>?_⟩;by_cases et:t=n;rw[et,qdu]
 have:=qvd (k:=key) (l:=(Fo n).1)
 dsimp only;omega;rw[qcK et];exact Nat.le_succ_of_le (h.okT t R).1;rw[qdP fun x hx e=>hin (mem_map.2 ⟨x,hx,e⟩)] at A;refine qqt (b:=b) (f:=0) (f2:=(rootM M n).2.2.toNat) G z.2.1 z.1 oJ I h.tw U oJ h.wo.calm.over (by rw[A];exact (by decide:(5:Int)≠-1)) (fun w' _ f=>O _ w' (C f)) (fun u=>by rw[A] at u;cases u) fun u=>by rw[A] at u;cases u
def Aw.commit{K:Int->WP}(h:Aw w0 w b q dbk pb FD F D M Fo Wa)(G:q<=900)(A:∀FD' F' w',Aw w0 w' b (q+1) dbk pb FD' F' D M Fo Wa->K 6 w')(C:∀FD' F' D' M' w',Aw w0 w' b (q+1) dbk pb FD' F' D' M' Fo Fo->K 0 w'): cW 20 [.pointer (pW pb)] [.one .i] w K:=by have u:=h.wo.calm.turn;have E:=h.wo.b4;refine qrr (j:=0) h.tw oJ ⟨u.1,oJ⟩ (by rw[h.wo.calm.blocks];omega) h.hgD fun FD' F' w7 y f n=>?_;rcases h.wo.commit oJ with e|⟨D',M',e,z⟩;rw[e] at y⊢;exact A _ _ _ (h.turn y (h.wo.weak (Nat.le_succ q)) f n fun t u=>⟨Nat.le_succ_of_le (h.okT t u).1,Nat.le_succ_of_le (h.okT t u).2⟩);rw[e] at y⊢;exact C _ _ _ _ _ (h.turn y z f n fun t u=>⟨Nat.le_succ_of_le (h.okT t u).1,Nat.le_succ_of_le (h.okT t u).1⟩)
def Aw.abort{K:Unit->WP}(h:Aw w0 w b q dbk pb FD F D M Fo Wa)(I:q<=900)(E:∀F' M' w',Aw w0 w' b (q+1) dbk pb FD F' D M' Wa Wa->K () w'): cW 29 [.pointer (pW pb)] [] w K:=by have z:=h.wo.calm.turn;have y:=(h.wo.weak (Nat.le_succ q)).back (s:=M.turn+1) ⟨oJ,oJ⟩;exact qsv h.tw ⟨z.1,oJ⟩ h.wo.calm.over y.calm.wf fun F' w7 u f n=>E _ _ _ (h.turn (q':=q+1) ⟨u.disk,u.lim.mono oJ,u.pager,u.hv,u.wf,u.sep⟩ y (f.mono fun x A _=>zI _ A) (fun x A=>(zD.1 A).elim (fun C=>.inl (zH _ C)) fun C=>(n x C).imp (fun G=>zI _ G) id) fun t z=>⟨Nat.le_succ_of_le (h.okT t z).2,Nat.le_succ_of_le (h.okT t z).2⟩)
end
abbrev Op28:=Int×Int×Sl
def Op28B (w:World) (o:Op28):Prop:=(0<=o.2.1/\o.2.1<256)/\∃l,RdB [] w o.2.2 l/\IsB l
def qtF{w0:World}{b q pb:Nat}{Fo Wa:Trees}{o0 o1:Int}{o2:Sl}{K:Unit->WP}(h:Aw w0 w b q dbk pb FD F D M Fo Wa)(hq:q<=900)(hB:Op28B w (o0,o1,o2))(G:∀w',Ast w0 w' b (q+1) dbk pb->K () w'): cW 49 [.pointer (pW pb),.agg #[.b o0,.b o1,o2.v]] [] w K:=by obtain⟨h1,l2,h2,b2⟩:=hB;dsimp only at h1 h2;refine qf8 ?_;unfold qdh;refine oB (oE [] w) fun r w2 _ f2 ho=>oA ho 0 rfl o1 rfl ?_;obtain⟨n,hn,et⟩:∃n:Nat,n<8/\wrap .i64 (Int.tmod o1 8)=n:=⟨(o1%8).toNat,oJ,by rw[Int.tmod_eq_emod_of_nonneg h1.1,wi' _ oJ];omega⟩;rw[et];have I:=qg0 hn;refine qsr ?_;rw[I.1];refine oA ho 0 rfl o2 rfl ?_;have af:=h2.frame0 f2;refine qaa (fun E=>G _ ⟨_,_,_,_,_,_,(h.frame0 f2).weak⟩) (fun E=>?_);have hl:l2.length<=100:=(by have:=zB E;have:=h2.1;omega);refine oA ho 0 rfl o2 rfl<|qwg (S:=[]) af b2<|qrh b2 oJ I.2.2.2.1 ⟨oM,oM⟩ fun x an J y A=>qsx y fun ag O Q R=>?_;have f:=(f2.trans A).trans R;have u:=h.frame0 f;have U:RdB (Zo FD [] F) O ag x:=Q _ fun z hz=>yC (h.tw.zlt z hz) (f2.trans A).size;refine oA ((ho.frame0 A).frame0 R) 0 rfl o0 rfl<|qaf (fun _ w'=>w'=O) (qaa (fun _=>rfl) fun _=>rfl) ?_;rintro c w' rfl;refine qaa (fun E=>?_) (fun E=>qaa (fun E=>?_) fun E=>?_);exact u.treeCut hn hq y J U fun e w' C=>G _ C;exact u.commit hq (fun _ _ _ C=>G _ ⟨_,_,_,_,_,_,C⟩) fun _ _ _ _ _ C=>G _ ⟨_,_,_,_,_,_,C⟩;exact quT (S:=Zo FD [] F) (v:=(kv n).2) rfl oJ u.tw.zlt fun vs ap ah V _=>(u.frame0 V).treePut hn hq y J (qv4 _) (by simp[zs]) (U.frame0 V) ah fun e w' C=>G _ C
def Aw.made{w w':World}{n dbk pb:Nat}{FD F:List Nat}{D:DiskM}(u:8<=n)(y:n<=300)(z:Hv w)(h:TW dbk pb FD D 5000 w' [] F (madeM n))(A:Made D n)(f:Fr [] w w')(C:∀x∈FD++F,w.heap.size<=x):Aw w w' n 1 dbk pb FD F D (madeM n) (fun _=>([],[])) (fun _=>([],[])):=
 ⟨⟨h.disk,h.lim.mono oJ,h.pager,h.hv,h.wf,h.sep⟩,Wo.made u y h.wf A,fun _ _=>⟨yW _,yW _⟩,C,z.lt,f⟩
def qt8{n:Nat}{x:Int}{ops:Sl}{u:List Op28}{K:Option Addr×Option Addr->WP}(hx:x=n)(C:8<=n)(h3:n<=300)(E:Hv w)(G:Rds (HL.mk qd1) 3 [] w ops u)(hB:∀o∈u,Op28B w o)(hl:u.length<=100)(kk:∀dbk pb FD F D M Fo w' q,Aw w w' n q dbk pb FD F D M Fo Fo->1<=q->q<=900->K (pW dbk,pW pb) w'): cW 18 [.i x,ops.v] [.one .ptr,.one .ptr] w K:=by subst hx;refine qfT ?_;unfold qcY;have ah:ops.len=u.length:=G.1;refine qm7 (n:=n) [] (fun b hb=>nomatch hb) (fun h=>nomatch h) E C oJ fun dbk pb FD F D w1 I J O Q=>cond_false rfl<|qaj (fun x w'=>∃i:Nat,x=i/\i<=u.length/\Ast w w' n (1+i) dbk pb) (fun x _=>u.length-x.toNat) ⟨0,rfl,yW _,_,_,_,_,_,_,Aw.made C h3 E I J O Q⟩ ?_;clear I J O Q;rintro x w5 ⟨i,rfl,hi,FD,F,D,M,Fo,Wa,h⟩ X hX;apply qaa<;>intro R;have z:i<u.length:=(by have:=zC R;omega);refine Rds.getA (G.frame0 h.fr) i rfl (zA z) rfl (y:=u[i]) rfl ?_;obtain⟨U,l2,V,b2⟩:=hB _ (zW z);generalize u[i]=o at U V⊢;obtain⟨o0,o1,o2⟩:=o;exact oB (oE [] w5) fun r6 w7 _ _ A=>oD A 0 rfl #[.b o0,.b o1,o2.v] fun w8 A f8=>oC A 0 rfl (o0,o1,o2) rfl<|qtF (h.frame0 A.fr) oJ ⟨U,l2,V.frame0 (h.fr.trans A.fr),b2⟩ fun w9 hA=>hX _ _ ⟨i+1,by rw[wi' _ oJ];rfl,z,hA⟩ (by rw[wi' _ oJ];omega);refine qaf (fun _ w'=>∃FD F D M Fo q,Aw w w' n q dbk pb FD F D M Fo Fo/\1<=q/\q<=900) ?_ fun _ w' ⟨FD,F,D,M,Fo,q,h,h1,h9⟩=>kk _ _ _ _ _ _ _ _ _ h h1 h9;refine h.commit oJ (fun FD' F' w6 h=>?_) fun FD' F' D' M' w6 h=>cond_false rfl ⟨_,_,_,_,_,_,h,oJ,oJ⟩;exact cond_true rfl (h.abort oJ fun F' M' w7 h=>⟨_,_,_,_,_,_,h,oJ,oJ⟩)
def Aw.look{w0:World}{b q pb:Nat}{Fo Wa:Trees}(h:Aw w0 w b q dbk pb FD F D M Fo Wa)(A:1<=q)(I:q<=900)(C:∀w',Fr [] w w'->K (repX (M.sup.1,b,b-2-M.lists.length-M.named.length,M.lists.length,M.named.length) (fun t=>(Wa t).1.length),0) w'):cW 22 [pA dbk] [.agg qbW,.one .i] w K:=by have u:=h.wo.back (s:=1) ⟨oM,oJ⟩;have z:=u.calm.blocks;have E:=h.wo.b4;have y:openM D=(some (baseM 1 M),0):=h.wo.opens.open;refine qu4 h.tw.disk h.tw.lim h.tw.hv y u.calm.wf rfl u.now (by rw[z];omega) rfl (fun t G=>by have:=(h.okT t G).2;omega) fun w' f=>?_;rw[z];exact C w' f
def qmH{db:Nat}{K:Int->WP}(h:DiskAt w db F D)(u:K D.writes w):cW 25 [.pointer (pW db)] [.one .i] w K:=by refine qhL ?_;unfold qec;obtain⟨sb,y,z⟩:=h.cell;exact qae (qag (off:=0+4) z D.writes rfl u)
def qlc{K:Bool->WP}(y:Hv w)(A:∀w',Fr [] w w'->K true w'):cW 17 [] [.one .bool] w K:=by refine qfU ?_;unfold qcZ;refine qm7 (n:=8) [] (fun b C=>nomatch C) (fun h=>nomatch h) y oM oM fun dbk pb FD F D Q E G z I=>cond_false rfl ((Aw.made oM oM y E G z I).look oM oM fun J O=>?_);refine oB (oE [] J) fun r R _ _ u=>oG u 0 rfl (repA (1,8,0,1,5) fun _=>0) oK rfl (zO rfl) fun w7 u U=>cond_true rfl (oC u 0 rfl (repX (1,8,0,1,5) fun _=>0) rfl ?_);exact qoB 3 oM true oK oK<|A _ ((z.trans O).trans u.fr)
def qnG{blocks:Int}{ops:Sl}{z:List Op28}{K:Bool->WP}(hv:Hv w)(hb:0<=blocks/\blocks<256)(ho:Rds (HL.mk qd1) 3 [] w ops z)(hB:∀o∈z,Op28B w o)(kk:∀w',Fr [] w w'->K true w'): cW 5 [.b blocks,ops.v] [.one .bool] w K:=by
 refine qdM ?_;unfold qbY;have ai:ops.len=z.length:=ho.1;refine qaa (fun G=>qlc hv kk) (fun G=>?_);have hl:z.length<=100:=(by have:=zB G;omega);obtain⟨n,hn,h8,h3⟩:∃n:Nat,wrap .i64 (8+Int.tmod (wrap .i64 blocks) 143)=n/\8<=n/\n<=300:=by rw[wi' blocks oJ,Int.tmod_eq_emod_of_nonneg hb.1,wi' _ oJ];exact⟨(8+blocks%143).toNat,oJ,oJ,oJ⟩
 rw[hn];refine qt8 rfl h8 h3 hv ho hB hl fun dbk pb FD F D M Fo w4 q h h1 h9=>cond_false rfl (qmH h.tw.disk (h.look h1 h9 fun w8 f8=>?_));refine oB (oE [] w8) fun r ar _ _ I=>oG I 0 rfl (repA (M.sup.1,n,n-2-M.lists.length-M.named.length,M.lists.length,M.named.length) fun t=>(Fo t).1.length) oK rfl (zO rfl) fun U I au=>?_;have h:=(h.frame0 f8).frame0 I.fr;have af:=h.wo.calm.wf.all;have av:=h.wo.calm.blocks;have aw:=h.wo.calm.wf.named4;have u:=I.drew;have J:=h.frame0 (Fr.refl [] _).drew;refine qaf (fun b w'=>b=false/\Fr [] U w') ?_ ?_;refine cond_false rfl (oA u 0 rfl (n:Int) rfl (cond_false (by rw[beq_self_eq_true];rfl) ?_));refine oA u 0 rfl (n-2-M.lists.length-M.named.length:Int) rfl (oA u 0 rfl (M.lists.length:Int) rfl (oA u 0 rfl (M.named.length:Int) rfl ?_));refine cond_false (by rw[wi' ((n-2-M.lists.length-M.named.length:Int)+M.lists.length) oJ,wi' _ oJ,wi' ((n:Int)-2) oJ,yD,yO];omega)<|oA u 0 rfl M.sup.1 rfl (qqw J.tw.pager (qai (u.cell 0 rfl rfl) (cond_false (by rw[beq_self_eq_true];rfl) (qmH J.tw.disk ⟨by rw[beq_self_eq_true];rfl,(Fr.refl [] _).drew⟩))));rintro _ V ⟨rfl,E⟩;refine cond_false rfl ?_;have O:=h.frame0 E;have Q:=I.frame0 E;refine upto1 8 (fun t w'=>Fr [] V w') oM (.refl _ _) ?_;intro t ax X ht y hX;refine qaa (fun G=>?_) (fun G=>qlc (O.frame0 y).tw.hv fun az aa=>kk _ (h.fr.trans (((E.trans y).trans aa))));have A:t<8:=(by have:=zC G;omega);refine qaP ⟨oJ,oJ⟩ ?_;rw[zJ,xP];simp only[Addr.add_mk];have C:=(Q.frame0 y).drew;have ab:=(O.frame0 y).frame0 (Fr.refl [] _).drew;refine oA C 0 rfl ((Fo t).1.length:Int) (qq4 _ _ A) (TW.root ab.tw fun aA R=>?_);refine qai ((C.frame0 R).cell 0 rfl (qq4 _ _ A))<|cond_false (by rw[(ql0 (h.wo.now.tree t A)).2.2.1,beq_self_eq_true];rfl) (hX _ A ((y.drew).trans R))
end
end
section
open Go.ChangeShapes Go.WideShapes Go.ChangeAt Go.RowKit Go.Pt
open Go
abbrev OPU:TypeId:=115
def qwD:fieldT Tryz.prog OPU 2=some 27:=by kernel_rfl
def qwe{H:Type}{enc:TypeId×Value->H}{W:World}{base:Nat}{spare:Nat->Bool}{held:Bool}{x:Op28}(h:HFit qd1 x/\∀(i:Nat) v,(HL.mk qd1 x)[i]?=some v->∃u n y,fieldT Tryz.prog OPU i=some u/\DataW.trod enc Tryz.prog W base spare held n u [v]=some y):Op28B W x:=by obtain⟨R,U,E⟩:=x;obtain⟨G,I⟩:=h;obtain⟨V,n2,y2,A,C⟩:=I 2 E.v rfl;obtain rfl:=yN (qwD.symm.trans A);obtain⟨J,K,O⟩:=qnD (P:=Tryz.prog) (t:=27) (e:=5) (s:=E) (k:=1) (encB:=fun n=>[Value.int .u8 n]) oK oK oM (qug (k:=.u8) oK) C;exact⟨qsh G.2.1,J,K,fun z Q=>qsh (O z Q)⟩
end
end Go.Proofs.YtgjidjnaigkdfaaGreatDoor
