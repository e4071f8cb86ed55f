/- Conditions: those that stand in each line. -/
import Derived.Test.YtgjidjnaigkdfaaGreatDoorCTV4
import Derived.Test.YtgjidjnaigkdfaaGreatDoorCTV3
set_option linter.unusedVariables false
set_option linter.unusedSimpArgs false
set_option linter.defProp false
namespace Go.Proofs.YtgjidjnaigkdfaaGreatDoor
open Go.Proofs.Tryz (prog)
section
open Go Go.Pt List
open Go.IntKind (wrap)
open Classical
attribute [local irreducible] ld ldA ldV fld fldA newZ st new idx idxS idxA slc slcS slcP mkS chk nn call callV inv run runQ runU join loop held ext rng undefer s2a nxt ent IntKind.wrap
variable {b named pages:List Int} {e:Int×Int×List Int} {k v:Nat} {kind:Int}
def qq4(h:IsB b)(A:2<=b.length):bits .or .i64 (wrap .i64 (wrap .i64 (b.getD 0 0)*2^8)) (wrap .i64 (b.getD 1 0))=(countV b:Int)/\countV b<=65535:=by have u:0<=b.getD 0 0/\b.getD 0 0<256:=h _ (yE (getD_some (l:=b) (n:=0) oJ));have z:0<=b.getD 1 0/\b.getD 1 0<256:=h _ (yE (getD_some (l:=b) (n:=1) oJ));unfold countV;generalize b.getD 0 0=x at u⊢;generalize b.getD 1 0=y at z⊢;rw[wi' x oJ,wi' y oJ,wi' (x*2^8) oJ,qqk 8];omega
def ql4(h:(capsV k v).1≠0):1<=k/\k<=24/\v<=108:=by unfold capsV at h;split at h;exact absurd rfl h;omega
def qv5(h:(capsV k v).1=0\/b.length<2\/b.length>500):readNV kind b k v=(zeroN,2):=by unfold readNV;rw[if_pos h]
def quM(h:¬((capsV k v).1=0\/b.length<2\/b.length>500)):readNV 3 b k v=if (b.drop 2).length=countV b*(k+v)/\rightV (leafN k v b) k v then (leafN k v b,0) else (zeroN,2):=by unfold readNV;rw[if_neg h];by_cases h2:(b.drop 2).length=countV b*(k+v)/\rightV (leafN k v b) k v;rw[if_pos ⟨rfl,h2⟩,if_pos h2];rw[if_neg fun h=>h2 h.2,if_neg h2,if_neg fun h=>absurd h.1 oM]
def qtb(h:¬((capsV k v).1=0\/b.length<2\/b.length>500)):readNV 4 b k v=if (1<=countV b/\(b.drop 2).length=countV b*4+(countV b-1)*k)/\rightV (innerN k b) k v then (innerN k b,0) else (zeroN,2):=by unfold readNV;rw[if_neg h,if_neg fun h=>absurd h.1 oM];by_cases h2:(1<=countV b/\(b.drop 2).length=countV b*4+(countV b-1)*k)/\rightV (innerN k b) k v;rw[if_pos ⟨rfl,h2.1.1,h2.1.2,h2.2⟩,if_pos h2];rw[if_neg fun h=>h2 ⟨⟨h.2.1,h.2.2.1⟩,h.2.2.2⟩,if_neg h2]
def quL(u:kind≠3)(y:kind≠4):readNV kind b k v=(zeroN,2):=by unfold readNV;split;rfl;rw[if_neg fun h=>u h.1,if_neg fun h=>y h.1]
section
variable {w:World} {s:Sl} {b:List Int}
def qu9{K:NdC×Int->WP}(hb:RdB [] w s b)(hB:IsB b)(kk:∀x B w',NodeB (List.range w.heap.size++B) w' x (readNV kind b k v).1 B->Fr [] w w'->(∀c∈B,w.heap.size<=c)->K (x,(readNV kind b k v).2) w'): cW 112 [.b kind,s.v,.i k,.i v] [.agg qab,.one .i] w K:=by
 refine qqe ?_;unfold qmA;have ac:=hb.1;refine oB (oE [] w) fun r1 w1 e1 f1 h=>qlg fun w4 f4=>?_;have h:=h.frame0 f4;refine qaf (fun d w'=>d=decide ((capsV k v).1=0\/b.length<2\/b.length>500)/\w'=w4) ?_ ?_;dsimp only;refine qaa (fun y=>⟨?_,rfl⟩) (fun y=>qaa (fun c2=>⟨?_,rfl⟩) (fun c2=>⟨?_,rfl⟩));have y:=yO.1 y;exact qkc (.inl oJ);have c2:=zC c2;exact qkc (.inr (.inl oJ));have y:=zR.1 y;have c2:=zB c2;rw[Bool.eq_iff_iff,yM,yM];constructor;intro h;exact .inr (.inr oJ);rintro (h|h|h);omega;omega;omega;rintro d aD ⟨rfl,rfl⟩;have ao:∀ {w'},readNV kind b k v=(zeroN,2)->Own [] w w' [(r1,.cells (ndV zeroX) ND (0,0))]->
   st ⟨r1,0,none⟩ ([Value.bool false,Value.slice none 0 0,Value.slice none 0 0,Value.slice none 0 0]) w' fun ap=>ldA (qab) ⟨r1,0,none⟩ ap fun aE=>K ((aE,2)) ap:=fun he h=>by
  refine oD h 0 rfl (ndV zeroX) fun w2 h f2=>oC h 0 rfl zeroX rfl ?_
  have:=kk zeroX [] w2 (by rw[he];exact .zero _ _) h.fr (fun _ h=>nomatch h)
  rw[he] at this;exact this
 refine qaa (fun u=>ao (qv5 (zC u)) h) (fun u=>?_);have O:=zB u;have aq:(capsV k v).1≠0:=fun e=>O (.inl e);have h2:2<=b.length/\b.length<=500:=by refine⟨?_,?_⟩;exact Nat.not_lt.1 fun e=>O (.inr (.inl e));exact Nat.not_lt.1 fun e=>O (.inr (.inr e))
 obtain⟨aT,aU,aV⟩:=ql4 aq;obtain⟨ar,aW⟩:=qq4 hB h2.1;have au:=(hb.frame0 h.fr).frame0 (Fr.refl [] aD).drew;refine RdB.at au 0 rfl (getD_some oJ)<|RdB.at au 1 rfl (getD_some oJ) ?_;rw[ar];have h:=h.drew;refine oB h fun aa ae aX aY h=>?_;have af:=qac (h.at (i:=0) rfl);have av:=qac (h.at (i:=1) rfl);dsimp only at af av;have ad:=hb.frame0 h.fr;have aw:=h.fr.size;refine qaf (fun G w'=>∃x B n,Own [] w w' [(aa,.cells (ndV x) ND (0,0)),(r1,.cells (ndV zeroX) ND (0,0))]/\NodeB (List.range ae.heap.size++B) w' x n B/\(∀c∈B,ae.heap.size<=c)/\
   G=decide ((kind=3/\(b.drop 2).length=countV b*(k+v))\/(kind=4/\1<=countV b/\(b.drop 2).length=countV b*4+(countV b-1)*k))/\
   (G=true->n=if kind=3 then leafN k v b else innerN k b)) ?_ ?_
 refine qaa (fun J=>?_) (fun J=>qaa (fun c4=>?_) (fun c4=>?_));have J:=yO.1 J;refine Rds.part (S:=[]) ad (lo:=some 2) (hi:=none) 2 b.length rfl (by rw[xT,ac]) h2.1 (zM _) fun aG _ C _=>?_;rw[xX] at C;refine qw0 C (hB.drop 2) (by rw[yB];omega) oJ oJ oJ fun x B n aH hn hN ai E=>?_;have aj:=h.frame0 ai;refine oD aj 0 rfl (ndV x) fun aI ak al=>?_;have Q:∀c∈B,c∉[aa]:=fun c u hm=>by have:=E c u;rw[zE.1 hm] at this;omega
 refine⟨x,B,n,ak,hN.frame al Q (fun c u=>.inl (by rw[zE.1 u];simp[af])) (fun c u=>.inl u),E,?_,fun z=>?_⟩;rw[Bool.eq_iff_iff,yM,yM];constructor;intro I;exact .inl ⟨J,I⟩;rintro (I|I);exact I.2
 have:=I.1;omega
 rw[if_pos J];exact hn (zC z);have J:=zR.1 J;have c4:=yO.1 c4;refine Rds.part (S:=[]) ad (lo:=some 2) (hi:=none) 2 b.length rfl (by rw[xT,ac]) h2.1 (zM _) fun aG _ C _=>?_;rw[xX] at C;refine que C (hB.drop 2) (by rw[yB];omega) oJ oJ fun x B n aH hn hN ai E=>?_;have aj:=h.frame0 ai;refine oD aj 0 rfl (ndV x) fun aI ak al=>?_;have Q:∀c∈B,c∉[aa]:=fun c u hm=>by have:=E c u;rw[zE.1 hm] at this;omega
 refine⟨x,B,n,ak,hN.frame al Q (fun c u=>.inl (by rw[zE.1 u];simp[af])) (fun c u=>.inl u),E,?_,fun z=>?_⟩;rw[Bool.eq_iff_iff,yM,yM];constructor;intro I;exact .inr ⟨c4,I⟩;rintro (I|I);exact absurd I.1 J;exact I.2;rw[if_neg J];exact hn (zC z);have J:=zR.1 J;have c4:=zR.1 c4;refine⟨zeroX,[],zeroN,h,.zero _ _,fun _ h=>(nomatch h),?_,fun z=>nomatch z⟩;rw[zU];rintro (I|I);exact J I.1;exact c4 I.1;rintro G aJ ⟨x,B,n,h,hN,E,R,hn⟩;have ay:G=true->n.keys.length<=1000000/\n.vals.length<=1000000/\n.kids.length<=1000000:=fun z=>by
  rw[hn z];split
  have:=qgi (k:=k) (v:=v) (countV b) (b.drop 2)
  unfold leafN;dsimp only;rw[this.1,this.2];simp;omega;unfold innerN;dsimp only;rw[qjg,qjh];simp;omega
 refine qaf (fun d w'=>d = !(G&&decide (rightV n k v))/\Own [] w w' [(aa,.cells (ndV x) ND (0,0)),(r1,.cells (ndV zeroX) ND (0,0))]/\NodeB (List.range ae.heap.size++B) w' x n B) ?_ ?_;apply qaa<;>intro y;have y:G=false:=(oP y);exact⟨by rw[y];rfl,h,hN⟩;have y:G=true:=(oP y);obtain⟨q1,q2,q3⟩:=ay y;refine oC h 0 rfl x rfl ?_;have aK:NodeR [] aJ x n:=hN.rd (fun _ _ h=>(nomatch h)) fun _ h=>nomatch h;exact qpk (x:=x) aK q1 q2 q3 fun a2 az=>⟨by rw[y,Bool.true_and],h.frame0 az,hN.frame0 az⟩;rintro d a3 ⟨rfl,h,hN⟩;have A:readNV kind b k v=if (G&&decide (rightV n k v))=true then (n,0) else (zeroN,2):=by
  by_cases k3:kind=3;subst k3;rw[quM O];have e:G=decide ((b.drop 2).length=countV b*(k+v)):=(by rw[R];exact decide_eq_decide.2 ⟨fun h=>h.elim (·.2) fun h=>absurd h.1 oM,fun h=>.inl ⟨rfl,h⟩⟩);by_cases z:G=true;have U:=hn z;rw[if_pos rfl] at U;rw[U,z,Bool.true_and];have hl:(b.drop 2).length=countV b*(k+v):=zC (e▸z);by_cases hr:rightV (leafN k v b) k v;rw[if_pos ⟨hl,hr⟩,if_pos (zZ hr)];rw[if_neg fun h=>hr h.2,if_neg (by rw[zU hr];decide)];have V:G=false:=(oP z);rw[V,Bool.false_and,if_neg (show ¬(false=true) by decide)];have hl:¬(b.drop 2).length=countV b*(k+v):=zB (e▸V);rw[if_neg fun h=>hl h.1];by_cases k4:kind=4;subst k4;rw[qtb O];have e:G=decide (1<=countV b/\(b.drop 2).length=countV b*4+(countV b-1)*k):=(by rw[R];exact decide_eq_decide.2 ⟨fun h=>h.elim (fun h=>absurd h.1 oM) (·.2),fun h=>.inr ⟨rfl,h⟩⟩);by_cases z:G=true;have U:=hn z;rw[if_neg k3] at U;rw[U,z,Bool.true_and];have hl:=zC (e▸z);by_cases hr:rightV (innerN k b) k v;rw[if_pos ⟨hl,hr⟩,if_pos (zZ hr)];rw[if_neg fun h=>hr h.2,if_neg (by rw[zU hr];decide)];have V:G=false:=(oP z);rw[V,Bool.false_and,if_neg (show ¬(false=true) by decide)];have hl:=zB (e▸V);rw[if_neg fun h=>hl h.1];rw[quL k3 k4];have z:G=false:=by rw[R,zU];rintro (h|h);exact k3 h.1;exact k4 h.1
  rw[z,Bool.false_and,if_neg (show ¬(false=true) by decide)]
 have aL:∀c∈B,c∉[r1]:=fun c u hm=>by have:=E c u;rw[zE.1 hm] at this;omega
 apply qaa<;>intro y;refine ao ?_ (h.sub (sublist_cons_self _ _));rw[A,if_neg (by rw[zT] at y;rw[y];decide)];rw[yD] at y;refine oC h 0 rfl x rfl<|oD h 1 rfl (ndV x) fun aM aA aN=>oC aA 1 rfl x rfl ?_;rw[if_pos y] at A
 have:=kk x B aM (by rw[A];exact (hN.frame aN aL (fun c u=>.inl (by rw[zE.1 u];simp[av])) (fun c u=>.inl u)).weak fun c u=>.inl (by rcases zD.1 u with u|u;exact zH _ (mem_range.2 (yC (mem_range.1 u) aw));exact zI _ u)) aA.fr (fun c u=>zL aw (E c u))
 rw[A] at this;exact this
end
section
def qym{M:PgM}(u:M.Named)(x:Int):x∈M.all↔x∈M.named\/x∈M.deferred\/x∈M.lists:=by rw[u.mem x];simp only[PgM.all,zD];constructor;rintro (h|h|h|h);exact .inl (.inl h);exact .inr (.inl h);exact .inr (.inr h);exact .inl (.inr h);rintro ((h|h)|h|h);exact .inl h;exact .inr (.inr (.inr h));exact .inr (.inl h);exact .inr (.inr (.inl h))
def qlG{M:PgM}(u:planM M=some (pages,named))(x:Int):x∈pages\/x∈named↔x∈M.free\/x∈M.deferred\/x∈M.lists:=by
 obtain⟨k,z,y,rfl,rfl⟩:=qe0 u;rw[qbQ];have e:x∈M.free↔x∈M.free.take k\/x∈M.free.drop k:=by
  conv=>lhs;rw[<- xC k M.free]
  exact zD
 simp only[zD,e];constructor;rintro (h|(h|h)|h);exact .inl (.inl h);exact .inr (.inl h);exact .inr (.inr h);exact .inl (.inr h);rintro ((h|h)|h|h);exact .inl h;exact .inr (.inr h);exact .inr (.inl (.inl h));exact .inr (.inl (.inr h))
section
variable {D D':DiskM} {M:PgM} {pages named:List Int} {t:Int} {ov:Bool}
def qrd(h:M.Wf)(y:∀e∈M.fresh,view D' e.1=sealV e.1 e.2.1 e.2.2)(u:e∈M.fresh):openV e.1 (view D' e.1)=(e.2.1,e.2.2,0):=by have z:=h.keys e.1 (zY u);have A:=h.n4;rw[y e u];exact qgQ ⟨oJ,oJ⟩ (h.body e u).2.1
def qot{x:Int}(y:M.over=false)(z:D.down=false)(u:2<=x/\x<D.size)(A:M.sup.2.getD 0 0=D.size)(h:x∉M.all):pagerReadM D M x=openV x (view D x):=by have C:look x M.fresh=none:=qbh.2 fun E=>h (zI _ (zI _ (zI _ E)));have G:usedV M x=true:=qd2.2 ⟨⟨u.1,by rw[A];exact u.2⟩,h⟩;have I:=qe1 z (n:=x) ⟨oJ,u.2⟩;unfold pagerReadM;rw[if_neg (by rw[y];decide),C];dsimp only;rw[if_neg (by rw[G];decide),I,if_neg oL]
def qta(h:M.over=false)(u:M.Wf)(y:e∈M.fresh):pagerReadM D M e.1=(e.2.1,e.2.2,0):=by obtain⟨i,z⟩:=qd6 u.keysNodup y;unfold pagerReadM;rw[if_neg (by rw[h];decide),z]
end
end
def qrn{v v':Int->List Int}{s t:Sup}(h:newestV (v 0) (v 1)=(s,0))(E:t.1=s.1+1)(C:0<=s.1)(y:readSV (t.1%2) (v' (t.1%2))=(t,0))(z:v' (s.1%2)=v (s.1%2)):newestV (v' 0) (v' 1)=(t,0):=by rcases qqa h with ⟨A,u,_⟩|⟨A,u,_⟩;have u:s.1%2=0:=(by rw[<- Int.tmod_eq_emod_of_nonneg C];exact u);have e:t.1%2=1:=oJ;rw[e] at y;rw[u] at z;rw[newestV,z,A,y,if_neg oL,if_pos (.inr ⟨rfl,by dsimp only;omega⟩)];have u:s.1%2=1:=(by rw[<- Int.tmod_eq_emod_of_nonneg C];exact u);have e:t.1%2=0:=oJ;rw[e] at y;rw[u] at z;rw[newestV,z,A,y,if_neg oL,if_neg oN]
def qqb(M:PgM)(pages named:List Int):(nextS M pages named).2.getD 0 0=M.sup.2.getD 0 0/\(nextS M pages named).2.getD 1 0=pages.headD 0/\(nextS M pages named).2.getD 2 0=wrap .u32 named.length:=⟨rfl,rfl,rfl⟩
def quw{n:Int}(h:ListOk n named pages)(y:n<=4096):wrap .u32 (named.length:Int)=named.length:=by
 have:=qbR (qbP h.rises) h.nums
 refine qaQ _ ?_;rcases this with u|u;omega;rw[u];exact⟨oM,oM⟩
def Opens.next{D D':DiskM}{M:PgM}(h:Opens D M.sup M.lists M.named)(C:M.Wf)(u:planM M=some (pages,named))(G:SupOk (nextS M pages named))(I:(nextS M pages named).1=M.sup.1+1)(J:0<=M.sup.1)(K:D'.down=false)(y:D'.size=D.size)(O:Listed D' named pages)(Q:view D' ((nextS M pages named).1%2)=sealV ((nextS M pages named).1%2) 1 (superB (nextS M pages named).1 (nextS M pages named).2))(R:view D' (M.sup.1%2)=view D (M.sup.1%2)):Opens D' (nextS M pages named) pages named:=by
 have E:=qb1 C u;have z:=qqb M pages named;have A:newestV (view D' 0) (view D' 1)=(nextS M pages named,0):=qrn (v:=view D) (v':=view D') h.newest I J (by rw[Q];exact G.read) R;exact {
  down:=K
  size:=by rw[y];exact h.size
  newest:=A
  blocks:=by rw[z.1,y];exact h.blocks
  list:=z.2.1
  free:=by rw[z.2.2];exact quw E C.n4
  ok:=by rw[y,<- h.blocks];exact E
  listed:=O }
end
section
open Go Go.Pt List
open Go.IntKind (wrap)
variable {db:Option Addr} {w:World}
def qj4{cl:List Cell}{b off:Nat}{cs:Array Value}{T:TypeId}{h:Nat×Nat}{K:HL cl->Prop}(u:w.heap[b]?=some (.cells cs T h))(x:HL cl)(y:(cs.toList.drop off).take cl.length=HL.mk cl x)(k:K x):Pt.ldA cl ⟨b,off,none⟩ w K:=
 ⟨x,qbf u _ off 0 (by rw[HL.mk_length];exact y),k⟩
attribute [local irreducible] ld ldA ldV fld fldA newZ st new idx idxS idxA slc slcS slcP mkS chk nn call callV inv run runQ runU join loop held ext rng undefer s2a nxt ent IntKind.wrap
def PgX.setRoots{w':World}{X:List Nat}{pb:Nat}{M:PgM}{fb defb mb:Nat}{sl sn:Sl}{F1 F2:List Nat}{y:List (Int×Leaf)}{roots:List Int}(h:PgX w X pb db M fb defb mb sl sn F1 F2 y)(z:roots.length=24)(A:w'.heap[pb]?=some (.cells (pgCells db M.sup sl sn M.turn M.over fb defb mb roots) PGT (0,0)))(f:Fr [pb] w w'):PgX w' X pb db { M with roots:=roots } fb defb mb sl sn F1 F2 y where
 cell:=A
 free:=h.free.frame f fun b u=>by simpa using (h.sep.2.1 b u).1
 deferred:=h.deferred.frame f fun b u=>by simpa using (h.sep.2.2 b u).1
 map:=h.map.frame f (by simpa using fun e=>h.sep.1 e.symm)
 fresh:=h.fresh
 rows:=h.rows.frame (f.mono fun i C _=>by rw[zE.1 C];simp) fun b u=>.inl u
 xlt:=fun b u=>yC (h.xlt b u) f.size
 xsep:=h.xsep
 sep:=h.sep
 suplen:=h.suplen
 rootlen:=z
def qs5{sup:Sup}{sl sn:Sl}{turn:Int}{over:Bool}{fb defb mb:Nat}{roots:List Int}(C:sup.2.length=27)(I:roots.length=24){t:Nat}(J:t<8){h r1 y:Int}: splice (pgCells db sup sl sn turn over fb defb mb roots) (36+3*t) [.u h,.u r1,.u y]=pgCells db sup sl sn turn over fb defb mb (roots.take (3*t)++[h,r1,y]++roots.drop (3*t+3)):=by
 have z:roots=roots.take (3*t)++(roots.drop (3*t)).take 3++roots.drop (3*t+3):=by rw[zV,<- xB,xC,xC]
 have:=qa5 (A:=(.pointer db::supV sup.1 sup.2)++pgRest sl sn turn over fb defb mb++(roots.take (3*t)).map (Value.int .u32)) (X:=((roots.drop (3*t)).take 3).map (Value.int .u32)) (Y:=[.u h,.u r1,.u y]) (Z:=(roots.drop (3*t+3)).map (Value.int .u32)) (by rw[zK,yK,yB];show min 3 _=3;omega)
 have E:((.pointer db::supV sup.1 sup.2)++pgRest sl sn turn over fb defb mb++(roots.take (3*t)).map (Value.int .u32)).length=36+3*t:=(by rw[zF,zF,qa2 C,zK,yK];show 29+7+_=_;omega);rw[E] at this;unfold pgCells;have G:roots.map (Value.int .u32)=(roots.take (3*t)).map (Value.int .u32)++((roots.drop (3*t)).take 3).map (Value.int .u32)++(roots.drop (3*t+3)).map (Value.int .u32):=(by rw[<- xJ,<- xJ,<- z]);rw[G];simp only[xJ,xK,map_nil];simp only[zV] at this⊢;exact this
section
variable {w:World} {X:List Nat} {pb:Nat} {db:Option Addr} {F:List Nat} {M:PgM}
def qqY{t z r1 A:Int}{K:Int->WP}(h:PagerAt w X pb db F M)(hk:∀w',PagerAt w' X pb db F (setRootM M t z r1 A).2->Fr F w w'->K (setRootM M t z r1 A).1 w'): cW 19 [.pointer (pW pb),.i t,.agg #[.u z,.u r1,.u A]] [.one .i] w K:=by
 have h0:=h;obtain⟨fb,defb,mb,sl,sn,F1,F2,fs,rfl,E⟩:=h;refine qgR ?_;unfold qdw;have C:∀ {e:Int} {w':World},setRootM M t z r1 A=(e,M)->Fr [] w w'->K e w':=by
  intro e w' he hf
  have:=hk w' (by rw[he];exact h0.frame0 hf) (hf.mono (fun b G=>by cases G))
  rw[he] at this;exact this
 refine oB (oE [] w) fun r w1 e1 R ho=>?_;have I:=E.frame0 R;refine qae (qah I.cell M.over (qc4 E.suplen) ?_);refine qaa (fun y=>C (by rw[setRootM,if_pos y]) R) (fun y=>?_);have J:¬M.over=true:=(by rw[y];decide);refine qaf (fun b w'=>b=decide (t<0\/t>7)/\w'=w1) ?_ ?_;refine qaa (fun y=>⟨by rw[zZ (Or.inl (zC y))],rfl⟩) (fun y=>?_)
 have:=zB y
 refine⟨decide_eq_decide.2 ⟨fun h=>.inr oJ,fun h=>oJ⟩,rfl⟩;rintro b w2 ⟨rfl,rfl⟩;refine qaa (fun y=>C (by rw[setRootM,if_neg J,if_pos (zC y)]) R) (fun y=>?_);have hr:=zB y;obtain⟨n,rfl⟩:∃n:Nat,t=n:=⟨t.toNat,oJ⟩;have U:n<8:=oJ;have O:setRootM M n z r1 A=(0,{ M with roots:=M.roots.take (3*n)++[z,r1,A]++M.roots.drop (3*n+3) }):=(by rw[setRootM,if_neg J,if_neg hr,zJ]);have V:=ho.drew;have Q:=I.frame0 (Fr.refl [] w2).drew;refine oC V 0 rfl (z,r1,A) rfl<|qae<|qaP oJ ?_;simp only[Addr.add_mk,zJ];refine qd9 Q.cell (pgCells db M.sup sl sn M.turn M.over fb defb mb (M.roots.take (3*n)++[z,r1,A]++M.roots.drop (3*n+3))) (by show splice _ (0+33+3+n*3) _=_;rw[show 0+33+3+n*3=36+3*n by omega];exact qs5 E.suplen E.rootlen U) rfl (by rw[qnw E.suplen,E.rootlen];exact zL (show 0+33+3+n*3+3<=60 by omega) (zM 60)) fun w3 aa f3=>?_;have hl:(M.roots.take (3*n)++[z,r1,A]++M.roots.drop (3*n+3)).length=24:=by
  have:=E.rootlen
  simp only[zF,yK,yB,yH,length_nil];omega
 have:=hk w3 (by rw[O];exact⟨fb,defb,mb,sl,sn,F1,F2,fs,rfl,Q.setRoots hl aa f3⟩) ((R.drew.mono fun b G=>nomatch G).trans (f3.mono fun b G _=>by rw[zE.1 G];simp))
 rw[O] at this;exact this
def rootM (M:PgM) (t:Int):Int×Int×Int:=if t<0\/t>7 then (0,0,0) else (M.roots.getD (3*t.toNat) 0,M.roots.getD (3*t.toNat+1) 0,M.roots.getD (3*t.toNat+2) 0)
def qvg{t:Int}{K:Int×Int×Int->WP}(h:PagerAt w X pb db F M)(I:∀w',Fr [] w w'->K (rootM M t) w'): cW 10 [.pointer (pW pb),.i t] [.agg [.u,.u,.u]] w K:=by
 obtain⟨fb,defb,mb,sl,sn,F1,F2,fs,rfl,C⟩:=h;refine qiQ ?_;unfold qeN;refine oB (oE [] w) fun r O e1 Q J=>?_;have E:=C.frame0 Q;refine qaf (fun b w'=>b=decide (t<0\/t>7)/\w'=O) ?_ ?_;refine qaa (fun z=>⟨by rw[zZ (Or.inl (zC z))],rfl⟩) (fun z=>?_)
 have:=zB z
 refine⟨decide_eq_decide.2 ⟨fun h=>.inr oJ,fun h=>oJ⟩,rfl⟩;rintro b w2 ⟨rfl,rfl⟩;apply qaa<;>intro z;refine oD J 0 rfl #[.u 0,.u 0,.u 0] fun G y R=>oC y 0 rfl (0,0,0) rfl ?_
 have:=I G y.fr
 rw[rootM,if_pos (zC z)] at this;exact this;have U:=zB z;obtain⟨n,rfl⟩:∃n:Nat,t=n:=⟨t.toNat,oJ⟩;have V:n<8:=oJ;have aa:=C.rootlen;refine qae<|qaP oJ ?_;simp only[Addr.add_mk,zJ];have e3:((M.roots.map (Value.int .u32)).drop (3*n)).take 3=[.u (M.roots.getD (3*n) 0),.u (M.roots.getD (3*n+1) 0),.u (M.roots.getD (3*n+2) 0)]:=by rw[zX (by rw[zK];omega),zX (by rw[zK];omega),zX (by rw[zK];omega)];simp only[take_succ_cons,take_zero,getElem_map];rw[getElem_eq_getD 0,getElem_eq_getD 0,getElem_eq_getD 0]
 refine qj4 E.cell (M.roots.getD (3*n) 0,M.roots.getD (3*n+1) 0,M.roots.getD (3*n+2) 0) ?_ ?_;have hd:=qih (db:=db) (sup:=M.sup) (sl:=sl) (sn:=sn) (turn:=M.turn) (over:=M.over) (fb:=fb) (defb:=defb) (mb:=mb) (roots:=M.roots) C.suplen C.rootlen;have A:(pgCells db M.sup sl sn M.turn M.over fb defb mb M.roots).toList.drop 36=M.roots.map (Value.int .u32):=by
  rw[<- hd,zS]
  have:=qnw (db:=db) (sup:=M.sup) (sl:=sl) (sn:=sn) (turn:=M.turn) (over:=M.over) (fb:=fb) (defb:=defb) (mb:=mb) (roots:=M.roots) C.suplen
  rw[yB,Array.length_toList];omega
 rw[show 0+33+3+n*3=36+3*n by omega,<- xB,A];exact e3;refine oD J 0 rfl #[.u (M.roots.getD (3*n) 0),.u (M.roots.getD (3*n+1) 0),.u (M.roots.getD (3*n+2) 0)] fun G y R=>oC y 0 rfl (M.roots.getD (3*n) 0,M.roots.getD (3*n+1) 0,M.roots.getD (3*n+2) 0) rfl ?_
 have:=I G y.fr
 rw[rootM,if_neg U,zJ] at this;exact this
end
def qtD{dbk pb:Nat}{X FD F:List Nat}{D:DiskM}{M:PgM}{k:Nat}{n:Int}{K:Int×Sl×Int->WP}(R:DiskAt w dbk FD D)(J:Lim D k)(O:PagerAt w X pb (dbOf dbk M) F M)(hv:Hv w)(hn:U32 n)(hl:M.lists.length<=1000000)(hb:∀e∈M.fresh,e.2.2.length<=100000)(hk:∀s w',(∀G:List Nat,(∀b∈G,b<w.heap.size)->RdB G w' s (pagerReadM D M n).2.1)->Fr [] w w'->K ((pagerReadM D M n).1,s,(pagerReadM D M n).2.2) w'): cW 41 [.pointer (pW pb),.u n] [.one .b,.one .slice,.one .i] w K:=by
 have U:=O;obtain⟨fb,defb,mb,sl,sn,F1,F2,fs,rfl,Q⟩:=O;refine qiO ?_;unfold qeL;have V:∀ {a:Int} {e:Int} {w':World},pagerReadM D M n=(a,[],e)->Fr [] w w'->K (a,⟨none,0,0⟩,e) w':=fun he f=>by
  have:=hk ⟨none,0,0⟩ _ (fun G hG=>by rw[he];exact .nil _ _ _ _) f
  rw[he] at this;exact this
 refine qae (qah Q.cell M.over (qc4 Q.suplen) ?_);refine qaa (fun A=>V (by rw[pagerReadM,if_pos A]) (.refl _ _)) (fun A=>?_);have C:¬M.over=true:=(by rw[A];decide);have ak:dbOf dbk M=pW dbk:=if_neg C;refine qae ?_;simp only[Addr.add_mk];refine qah Q.cell (some mb) (qbG Q.suplen) ?_;have h:look n M.fresh=(look n fs).map fun q=>(q.1,q.2.1,q.2.2.2):=(by rw[Q.fresh];exact qci (fun e:Leaf=>(e.1,e.2.2)) n fs);refine qj6 Q.map.at (fun q hq=>?_) (fun hq=>?_);rw[hq] at h;have h:look n M.fresh=some (q.1,q.2.1,q.2.2.2):=h;refine oB (oE [] w) fun r w1 e1 f1 ho=>oD ho 0 rfl #[.b q.2.1,q.2.2.1.v] fun w2 I f2=>?_;have E:=I.drew;refine cond_true rfl<|oA E 0 rfl q.2.1 rfl<|oA E 0 rfl q.2.2.1 rfl ?_;have am:=(qa1 hq).2;have an:=Q.rows.bodies _ am;have ac:=(qa1 h).2;refine qa3 (an.frame0 E.fr) (zL (hb _ ac) oM) fun s2 B2 w3 b2 f3 n2 _ _=>?_;have ad:=E.frame0 f3;refine qaj (ad.cell 0 rfl rfl) ?_;have y:pagerReadM D M n=(q.2.1,q.2.2.2,0):=by rw[pagerReadM,if_neg C,h]
 have:=hk s2 w3 (fun G hG=>by rw[y];exact Buf.rds qas b2 fun b hb hm=>by have:=n2 b hb;have:=hG b hm;have:=E.fr.size;omega) ad.fr
 rw[y] at this;exact this;rw[hq] at h;have h:look n M.fresh=none:=h;refine oB (oE [] w) fun r w1 e1 f1 ho=>oD ho 0 rfl #[.b 0,.slice none 0 0] fun w2 I f2=>cond_false rfl<|qpj (U.frame0 I.fr) hl fun w3 f3=>?_;have z:=I.fr.trans f3;have ae:=Q.frame0 z;apply qaa<;>intro A;have hu:usedV M n=false:=(oP A);exact V (by rw[pagerReadM,if_neg C,h];exact if_pos hu) z;have hu:¬usedV M n=false:=(oP A);rw[ak] at ae;refine qae (qah ae.cell (pW dbk) qs4 ?_);rw[wi' n (by have:=hn.1;have:=hn.2;omega)];refine qhG (R.frame0 z) J.ok fun s5 B5 w5 b5 f5 n5=>?_;apply qaa<;>intro A;have he:(readV D n).2≠0:=(oP A);exact V (by rw[pagerReadM,if_neg C,h];exact (if_neg hu).trans (if_pos he)) (z.trans f5);have he:¬(readV D n).2≠0:=(oP A);have aq:=qbL J.ok n;refine qnu (b5.rds qas (S:=[]) oL) (hv.frame0 (z.trans f5)) aq.1 oJ fun s6 B6 w6 b6 f6 n6=>?_;have y:pagerReadM D M n=openV n (readV D n).1:=by rw[pagerReadM,if_neg C,h];exact (if_neg hu).trans (if_neg he)
 have:=hk s6 w6 (fun G hG=>by rw[y];exact Buf.rds qas b6 fun b hb hm=>by have:=n6 b hb;have:=hG b hm;have:=(z.trans f5).size;omega) ((z.trans f5).trans f6)
 rw[y] at this;exact this
end
section
open Go Go.Pt List
open Go.IntKind (wrap)
def Lim.new{n:Nat}(h:n<=4096):Lim (newM n) 0:=⟨qxa h,by simp[newM],by simp[newM]⟩
def pgs (n:Nat):List Int:=(allV n).take (needP (allV n).length)
def nums (n:Nat):List Int:=(allV n).drop (needP (allV n).length)
def madeM (n:Nat):PgM:=begunM (fmtSup n) (pgs n) (nums n) 1 false (nums n)
def qw6{n:Nat}(h:8<=n)(u:n<=4096):(madeM n).Wf:=by have e:(fmtSup n).2.getD 0 0=n:=(by show wrap .u32 (n:Int)=_;exact qaQ _);exact qhN (by rw[e];exact qmj) (by rw[e];omega) (qjc h u).u32
structure Made (D:DiskM) (n:Nat):Prop where
 quiet:Quiet D
 size:D.size=n
 waits:D.waits=[]
 opens:Opens D (fmtSup n) (pgs n) (nums n)
 fmt:formatM (newM n)=(D,0)
 zero:view D 0=zs 512
end
section
open Go Go.Pt List
open Go.IntKind (wrap)
open Classical
variable {P:List Int} {t:Int}
def rootTo (t:Int) (s:(Int×Int)×PgM) (u h:Int):Int×PgM:=if s.1.2≠0 then (s.1.2,s.2) else setRootM s.2 t s.1.1 u h
noncomputable def growN (k v:Nat) (t:Int) (r:Int×Int×Int) (x:(Grown×Int)×PgM):Int×PgM:=
 if x.1.2≠0 then (x.1.2,x.2)
 else if x.1.1.other≠0 then rootTo t (storeN k v x.2 0 ⟨false,[x.1.1.key],[],[x.1.1.page,x.1.1.other]⟩) (if x.1.1.fresh then wrap .u32 (r.2.1+1) else r.2.1) (wrap .u32 (r.2.2+1))
 else setRootM x.2 t x.1.1.page (if x.1.1.fresh then wrap .u32 (r.2.1+1) else r.2.1) r.2.2
noncomputable def insertN (D:DiskM) (k v:Nat) (t:Int) (key val:Key) (f:Nat) (M:PgM):Int×PgM:=
 if (rootM M t).1=0 then rootTo t (storeN k v M 0 (lfOf [(key,val)])) 1 1 else growN k v t (rootM M t) (putN D k v key val f M (rootM M t).1)
noncomputable def shrinkN (k v:Nat) (t:Int) (r:Int×Int×Int) (x:(NodeM×Int)×PgM):Int×PgM:=
 if x.1.2≠0 then (x.1.2,x.2)
 else if x.1.1.leaf=true/\x.1.1.keys.length=0 then (if (dropV x.2 r.1).1≠0 then ((dropV x.2 r.1).1,(dropV x.2 r.1).2) else setRootM (dropV x.2 r.1).2 t 0 0 0)
 else if x.1.1.leaf=false/\x.1.1.kids.length=1 then (if (dropV x.2 r.1).1≠0 then ((dropV x.2 r.1).1,(dropV x.2 r.1).2) else setRootM (dropV x.2 r.1).2 t (x.1.1.kids.getD 0 0) (wrap .u32 (r.2.1-1)) (wrap .u32 (r.2.2-1)))
 else rootTo t (storeN k v x.2 r.1 x.1.1) (wrap .u32 (r.2.1-1)) r.2.2
noncomputable def removeN (D:DiskM) (k v:Nat) (t:Int) (key:Key) (f:Nat) (M:PgM):Int×PgM:=shrinkN k v t (rootM M t) (cutN D k v key f M (rootM M t).1)
def TreeIs (D:DiskM) (M:PgM) (k v:Nat) (t:Int) (L:Prs) (P:List Int):Prop:=
 (rootM M t=(0,0,0)/\L=[]/\P=[])\/∃h n p,p≠0/\rootM M t=(p,(L.length:Int),((h+1:Nat):Int))/\Has D M k v h ⟨p,n,L,P⟩
structure RStep (D:DiskM) (M M':PgM) (t:Int) (P P':List Int):Prop where
 step:Step D M { M' with roots:=M.roots } P P'
 wf:M'.Wf
 len:M'.roots.length=24
 others:∀ t':Int,t'≠t->rootM M' t'=rootM M t'
section
variable {D:DiskM} {M M':PgM} {k v:Nat}
def qv8{a b c:Int}(G:0<=t/\t<8)(A:M.over=false)(I:M.roots.length=24):∃R,setRootM M t a b c=(0,{ M with roots:=R })/\R.length=24/\rootM { M with roots:=R } t=(a,b,c)/\(∀y:Int,y≠t->rootM { M with roots:=R } y=rootM M y)/\∀x∈R,x∈M.roots\/x=a\/x=b\/x=c:=by
 obtain⟨n,rfl⟩:∃n:Nat,t=n:=⟨t.toNat,oJ⟩;have J:n<8:=oJ;have e:setRootM M n a b c=(0,{ M with roots:=M.roots.take (3*n)++[a,b,c]++M.roots.drop (3*n+3) }):=by rw[setRootM,if_neg (by rw[A];decide),iN,zJ]
 have C:(M.roots.take (3*n)).length=3*n:=(by rw[yK];omega);have h:∀i,(M.roots.take (3*n)++[a,b,c]++M.roots.drop (3*n+3)).getD i 0=if i=3*n then a else if i=3*n+1 then b else if i=3*n+2 then c else M.roots.getD i 0:=fun i=>by rw[zV,yQ];by_cases h1:i<3*n;rw[yY oJ,xA,if_pos h1,iN,iN,iN,yQ];rw[yX oJ,C];by_cases h2:i=3*n;rw[if_pos h2,h2,Nat.sub_self];rfl;rw[if_neg h2];by_cases h3:i=3*n+1;rw[if_pos h3,h3,show 3*n+1-3*n=1 by omega];rfl;rw[if_neg h3];by_cases h4:i=3*n+2;rw[if_pos h4,h4,show 3*n+2-3*n=2 by omega];rfl;rw[if_neg h4,yX oO,yZ,yQ];congr 2;simp;omega
 refine⟨_,e,?_,?_,fun y z=>?_,fun x u=>?_⟩;simp only[zF,yK,yB,yH,length_nil];omega;rw[rootM,iN,zJ];dsimp only;rw[h,h,h,if_pos rfl,iN,if_pos rfl,iN,iN,if_pos rfl];unfold rootM;by_cases hr':y<0\/y>7;rw[if_pos hr',if_pos hr'];rw[if_neg hr',if_neg hr'];dsimp only;have E:y.toNat≠n:=fun e=>z oJ;rw[h,h,h,iN,iN,iN,iN,iN,iN,iN,iN,iN];rcases zD.1 u with u|u;rcases zD.1 u with u|u;exact .inl (yU u);simp only[zG,xV,or_false] at u;exact .inr u;exact .inl (yT u)
def qqR{R:List Int}(h:M.Wf)(u:∀x∈R,U32 x):({ M with roots:=R }:PgM).Wf:=⟨h.n4,h.u32,u,h.namedS,h.named,h.freeS,h.defS,h.nodup,h.range,h.body⟩
def Has.roots{h:Nat}{s:Seg}{R:List Int}(u:Has D M k v h s):Has D { M with roots:=R } k v h s:=u.frame fun x _=>rfl
def Step.root{P':List Int}{a b c:Int}(z:0<=t/\t<8)(A:M.roots.length=24)(h:Step D M M' P P')(C:U32 a)(E:U32 b)(G:U32 c): ∃R,setRootM M' t a b c=(0,{ M' with roots:=R })/\RStep D M { M' with roots:=R } t P P'/\rootM { M' with roots:=R } t=(a,b,c):=by obtain⟨R,e,I,J,K,O⟩:=qv8 (a:=a) (b:=b) (c:=c) z h.over (by rw[h.roots];exact A);refine⟨R,e,⟨?_,qqR h.wf fun x Q=>?_,I,fun U y=>?_⟩,J⟩;have V:({ M' with roots:=M.roots }:PgM)=M':=(by rw[<- h.roots]);show Step D M { M' with roots:=M.roots } P P';rw[V];exact h;rcases O x Q with u|u|u|u;exact h.wf.roots x u;rw[u];exact C;rw[u];exact E;rw[u];exact G;rw[K U y];unfold rootM;rw[h.roots]
def Has.counts:∀ {h:Nat} {s:Seg},Has D M k v h s->h+1<=s.prs.length/\s.pages.length+1<=2*s.prs.length
 | 0,s,y=>by have C:=length_pos_iff.2 y.ne;rw[y.1];simp;omega
 | h+1,s,⟨z,O,C,E,G,I,Q,R,J⟩=>by
  have K:=I.right.innerTwo.1;rw[E,G];have key:∀l:List Ent,(∀e∈l,Has D M k v h e.2)->l.length*(h+1)<=(l.flatMap (·.2.prs)).length/\(l.flatMap (·.2.pages)).length+l.length<=2*(l.flatMap (·.2.prs)).length:=by
   intro l;induction l with
   | nil=>intro _;exact⟨oL,oL⟩
   | cons a l ih=>
    intro A;have i:=ih fun e u=>A e (zN _ u);have j:=(A a oL).counts;rw[yG,yG,zF,zF,yH,xR];omega
  have:=key z fun e u=>(J e u).1
  have U:2*(h+1)<=z.length*(h+1):=Nat.mul_le_mul_right _ K;rw[yH];omega
def Has.least(A:CapsOk k v):∀ {h:Nat} {s:Seg},Has D M k v h s->minOf k v h<=s.size->(capsV k v).1 / 2*((capsV k v).2 / 2)^h<=s.prs.length
 | 0,s,C,u=>by rw[Nat.pow_zero,xQ,<- C.2.1];exact u
 | h+1,s,⟨z,O,E,G,Q,R,U,V,I⟩,u=>by
  rw[G];have key:∀l:List Ent,(∀e∈l,Has D M k v h e.2/\minOf k v h<=e.2.size)->l.length*((capsV k v).1 / 2*((capsV k v).2 / 2)^h)<=(l.flatMap (·.2.prs)).length:=by
   intro l;induction l with
   | nil=>intro _;simp
   | cons a l ih=>
    intro y;have i:=ih fun e J=>y e (zN _ J);have j:=(y a oL).1.least A (y a oL).2;rw[yG,zF,yH,xR];omega
  have K:(capsV k v).2 / 2<=z.length:=(by rw[<- E];exact u);refine zL ?_ (key z I);rw[Nat.pow_succ,<- Nat.mul_assoc,Nat.mul_comm];exact Nat.mul_le_mul_right _ K
def Has.root_least(y:CapsOk k v){h:Nat}{s:Seg}(z:Has D M k v (h+1) s):2*((capsV k v).1 / 2*((capsV k v).2 / 2)^h)<=s.prs.length:=by
 obtain⟨A,K,O,C,Q,E,R,U,G⟩:=z;have I:=E.right.innerTwo.1;rw[C];have key:∀l:List Ent,(∀e∈l,Has D M k v h e.2/\minOf k v h<=e.2.size)->l.length*((capsV k v).1 / 2*((capsV k v).2 / 2)^h)<=(l.flatMap (·.2.prs)).length:=by
  intro l;induction l with
  | nil=>intro _;simp
  | cons a l ih=>
   intro u;have i:=ih fun e J=>u e (zN _ J);have j:=(u a oL).1.least y (u a oL).2;rw[yG,zF,yH,xR];omega
 exact zL (Nat.mul_le_mul_right _ I) (key A G)
def qjf(hc:CapsOk k v){key val:Key}{L:Prs}(ht:0<=t/\t<8)(hk:key.length=k/\IsB key)(hv:val.length=v/\IsB val)(hT:TreeIs D M k v t L P)(hW:M.Wf)(ho:M.over=false)(hr:M.roots.length=24)(hn:P.Nodup)(hL:L.length<=1000000)(hf:2*(rootM M t).2.2.toNat+1<=M.free.length): ∃M' P',insertN D k v t key val (rootM M t).2.2.toNat M=(0,M')/\TreeIs D M' k v t (insP key val L) P'/\RStep D M M' t P P'/\M.free.length<=M'.free.length+(2*(rootM M t).2.2.toNat+1):=by
 have aS:=qbY (k:=k) (v:=v);rcases hT with ⟨e0,rfl,rfl⟩|⟨h,n,p,aE,er,hs⟩;unfold insertN;rw[e0,if_pos rfl];have aF:PrsOk k v [(key,val)]:=fun x hx=>by rw[zE.1 hx];exact⟨hk.1,hv.1,hk.2,hv.2⟩
 have O:=qhb (k:=k) (v:=v) aF (pairwise_singleton _ _) oL (by have:=hc.leaf;simp;omega);obtain⟨q,M1,e1,st,V,hl,aa⟩:=qjJ (D:=D) hW ho O (fun e=>by rw[e] at hf;simp at hf);have hu:=st.has q oL;have hq:=qba st.wf hu;obtain⟨R,e2,rs,y⟩:=st.root (a:=q) (b:=1) (c:=1) ht hr ⟨oJ,hq.2⟩ ⟨oM,oM⟩ ⟨oM,oM⟩;refine⟨{ M1 with roots:=R },[q],?_,.inr ⟨0,1,q,aa,y,?_⟩,rs,by show M.free.length<=M1.free.length+_;omega⟩;unfold rootTo;rw[e1];dsimp only;rw[if_neg (fun h=>h rfl),e2]
 have:=qfp O V
 exact this.roots;rw[er] at hf;have ai:(((h+1:Nat):Int)).toNat=h+1:=zJ _;dsimp only at hf;rw[ai] at hf;have aj:=hs.counts;dsimp only at aj;obtain⟨g,M1,eg,ok⟩:=treePut hc hk hv h M ⟨p,n,L,P⟩ hs hW ho hn (by
  have h9:=hs.load;obtain⟨N,R,_,O,_⟩:=h9;show n<=1000;cases h with
  | zero=>have:=O.2.2.2.2.2;dsimp only at this;omega
  | succ h=>obtain⟨_,_,_,_,_,_,_,_,h8,_⟩:=O;dsimp only at h8;omega) oJ
 have ak:=ok.free;have z:=ok.fresh;dsimp only at eg z;have u:((insP key val L).length:Int)=if g.fresh then wrap .u32 ((L.length:Int)+1) else (L.length:Int):=by rw[z];by_cases hm:key∈keysP L;rw[zU (fun h=>h hm),if_neg oM,qcf hs.sort hm];rw[zZ hm,if_pos rfl,qbF hm,qaQ _];omega
 have al:U32 (if g.fresh then wrap .u32 ((L.length:Int)+1) else (L.length:Int)):=by
  rw[<- u];have h1:(insP key val L).length<=L.length+1:=by by_cases hm:key∈keysP L;rw[qcf (show SortP L from hs.sort) hm];omega;rw[qbF hm];exact zM _
  exact⟨oJ,oJ⟩
 unfold insertN;rw[er,if_neg (show ¬p=0 from aE)];dsimp only;rw[ai,eg];unfold growN;dsimp only;rw[if_neg (fun h=>h rfl)];rcases ok.res with ⟨ac,n',P',hH,st,_⟩|⟨ac,n1,L1,E,Q,L2,C,I,J,am,aK,aL,an,ao,aM,aN,st⟩;rw[if_neg (fun h=>h ac)];have hu:=hH.used st.over g.page hH.mem;have hq:=qba st.wf hu;obtain⟨R,e2,rs,y⟩:=st.root (a:=g.page) (b:=if g.fresh then wrap .u32 ((L.length:Int)+1) else (L.length:Int)) (c:=((h+1:Nat):Int)) ht hr ⟨oJ,hq.2⟩ al ⟨oJ,oJ⟩;rw[<- u] at y e2;refine⟨{ M1 with roots:=R },P',?_,.inr ⟨h,n',g.page,oJ,y,hH.roots⟩,rs,by show M.free.length<=M1.free.length+_;omega⟩;rw[<- u];exact e2;rw[if_pos ac];have aY:=qba st.wf (I.used st.over g.page I.mem);have aZ:=qba st.wf (J.used st.over g.other J.mem);have ap:L1≠[]:=I.ne;have aq:L2≠[]:=J.ne;have U:SepE [([],(⟨g.page,n1,L1,E⟩:Seg)),(g.key,⟨g.other,Q,L2,C⟩)]:=
  (SepE.cut2 (A:=[]) (B:=[]) (lo:=[]) (s:=⟨0,0,L1++L2,[]⟩) (s1:=⟨g.page,n1,L1,E⟩) (s2:=⟨g.other,Q,L2,C⟩) (m:=g.key) (qnA fun x _=>qe8 _) rfl aK aL ap aq)
 have hp:∀e∈[([],(⟨g.page,n1,L1,E⟩:Seg)),(g.key,⟨g.other,Q,L2,C⟩)],Has D M1 k v h e.2/\minOf k v h<=e.2.size:=fun e G=>by simp only[zG,xV,or_false] at G;rcases G with rfl|rfl;exact⟨I,aM⟩;exact⟨J,aN⟩
 have aO:KeysOk k [([],(⟨g.page,n1,L1,E⟩:Seg)),(g.key,⟨g.other,Q,L2,C⟩)]:=fun e G=>by rw[zE.1 (show e∈[(g.key,(⟨g.other,Q,L2,C⟩:Seg))] from G)];exact⟨an,ao⟩
 have O:=qdS st.wf st.over aO U oL (by have:=hc.inner;simp;omega) fun e G=>(hp e G).1;obtain⟨q,M2,e1,K,V,a0,aa⟩:=qjJ (D:=D) st.wf st.over O (fun e=>by rw[e] at ak;simp at ak;omega);have au:∀e∈[([],(⟨g.page,n1,L1,E⟩:Seg)),(g.key,⟨g.other,Q,L2,C⟩)],Has D M2 k v h e.2/\minOf k v h<=e.2.size:=fun e G=>
  ⟨(hp e G).1.frame fun x hx=>(K.rest x ((hp e G).1.used st.over x hx) oL).1,(hp e G).2⟩
 have hI:=qcX (h:=h) rfl O V U au;have av:Step D M1 M2 (E++C) (q::(E++C)):=by
  have:=K.beside (Z:=E++C) st.has (oP st.nodup)
  exact this.perm oL perm_append_comm
 have aw:=st.trans av;have hq:=qba K.wf (K.has q oL);obtain⟨R,e2,rs,y⟩:=aw.root (a:=q) (b:=if g.fresh then wrap .u32 ((L.length:Int)+1) else (L.length:Int)) (c:=((h+1+1:Nat):Int)) ht hr ⟨oJ,hq.2⟩ al ⟨oJ,oJ⟩;have e3:storeN k v M1 0 ⟨false,[g.key],[],[g.page,g.other]⟩=((q,0),M2):=e1;have aP:wrap .u32 ((((h+1:Nat):Int))+1)=((h+1+1:Nat):Int):=(by rw[qaQ _];omega);rw[<- u] at y e2;refine⟨{ M2 with roots:=R },q::(E++C),?_,.inr ⟨h+1,2,q,aa,y,?_⟩,rs,by show M.free.length<=M2.free.length+_;omega⟩;unfold rootTo;rw[e3,aP,<- u];dsimp only;rw[if_neg (fun h=>h rfl),e2];have h9:=hI.roots (R:=R);have e5:[([],(⟨g.page,n1,L1,E⟩:Seg)),(g.key,⟨g.other,Q,L2,C⟩)].flatMap (·.2.prs)=insP key val L:=(by rw[<- am];simp);have e6:[([],(⟨g.page,n1,L1,E⟩:Seg)),(g.key,⟨g.other,Q,L2,C⟩)].flatMap (·.2.pages)=E++C:=oL;rw[e5,e6] at h9;exact h9
def qow(hc:CapsOk k v){key:Key}{L:Prs}(ht:0<=t/\t<8)(hT:TreeIs D M k v t L P)(C:key∈keysP L)(hW:M.Wf)(ho:M.over=false)(hr:M.roots.length=24)(hn:P.Nodup)(hL:L.length<=1000000)(hf:2*(rootM M t).2.2.toNat+1<=M.free.length): ∃M' P',removeN D k v t key (rootM M t).2.2.toNat M=(0,M')/\TreeIs D M' k v t (cutP key L) P'/\RStep D M M' t P P'/\M.free.length<=M'.free.length+(2*(rootM M t).2.2.toNat+1):=by
 rcases hT with ⟨e0,rfl,rfl⟩|⟨h,n,p,aV,er,hs⟩;cases C;rw[er] at hf;have al:(((h+1:Nat):Int)).toNat=h+1:=zJ _;dsimp only at hf;rw[al] at hf;have am:=hs.counts;dsimp only at am;obtain⟨N,m,M1,R,R',ec,hP,hN,st,aC,aW⟩:=treeCut hc h M ⟨p,n,L,P⟩ hs hW ho hn C oJ;dsimp only at ec hP;subst hP;have A:=hs.sort;dsimp only at A;have aP:(cutP key L).length+1=L.length:=by
  have hm:=(qcj A).2 C;have hi:placeV (keysP L) key<L.length:=by
   have:=(zP.1 hm).1
   simpa using this
  rw[qma A C,zF,yK,yB];omega
 have aD:wrap .u32 ((L.length:Int)-1)=((cutP key L).length:Int):=(by rw[qaQ _];omega);have ae:U32 ((cutP key L).length:Int):=⟨oJ,oJ⟩;have af:InUse M p:=hs.used ho p oL;have an:p∉R:=(nodup_cons.1 hn).1;have E:=(st.rest p af an).2.1;have G:=(st.rest p af an).2.2;have ag:Step D M M1 (p::R) (p::R'):=st.beside (Z:=[p]) (fun x hx=>by rw[zE.1 hx];exact af) (oP hn);unfold removeN;rw[er];dsimp only;rw[al,ec];unfold shrinkN;dsimp only;rw[if_neg (fun h=>h rfl),aD];have ab:∀ {a b c:Int},U32 a->U32 b->U32 c->∃u I,dropV M1 p=(0,u)/\setRootM u t a b c=(0,{ u with roots:=I })/\RStep D M { u with roots:=I } t (p::R) R'/\rootM { u with roots:=I } t=(a,b,c)/\M1.free.length<=u.free.length/\∀x∈R',pagerReadM D u x=pagerReadM D M1 x:=fun ha hb aE=>by
  obtain⟨u,O,y,J⟩:=qnX (D:=D) st.wf st.over E;have h9:=y.beside (Z:=R') (fun x hx=>st.has x hx) (by
   have:=ag.nodup
   exact (perm_append_singleton p R').nodup_iff.2 this)
  rw[xF] at h9;have h8:=(ag.perm (.refl _) (perm_append_singleton p R').symm).trans h9;obtain⟨I,U,V,z⟩:=h8.root (t:=t) ht hr ha hb aE;exact⟨u,I,O,U,V,z,J,fun x hx=>(y.rest x (st.has x hx) (fun hm=>G (by rw[<- zE.1 hm];exact hx))).1⟩
 cases h with
 | zero=>
  have ah:=hN;have aF:R=[]:=(List.cons.inj (show p::R=[p] from hs.1)).2;subst aF;obtain⟨rfl,hm,rfl,a0,aG,ao⟩:=hN;dsimp only at hm;have K:(lfOf (cutP key L)).keys.length=(cutP key L).length:=zK _;by_cases hz:(cutP key L).length=0;rw[if_pos ⟨rfl,by rw[K];exact hz⟩];have ap:cutP key L=[]:=eq_nil_of_length_eq_zero hz;obtain⟨u,I,O,U,V,z,J,_⟩:=ab (a:=0) (b:=0) (c:=0) ⟨oM,oM⟩ ⟨oM,oM⟩ ⟨oM,oM⟩;rw[O];dsimp only;rw[if_neg (fun h=>h rfl),U];exact⟨_,[],rfl,.inl ⟨z,ap,rfl⟩,V,by show M.free.length<=u.free.length+_;omega⟩;rw[if_neg (fun h=>hz (by rw[<- K];exact h.2)),if_neg (fun h=>nomatch h.1)];obtain⟨q,u,O,y,H2,J⟩:=ah.store st.wf st.over (show 1<=m by omega) E G oJ;have ai:Step D M u [p] [q]:=ag.trans y;have hq:=qba y.wf (y.has q oL);obtain⟨I,U,V,z⟩:=ai.root (a:=q) (b:=((cutP key L).length:Int)) (c:=((0+1:Nat):Int)) ht hr ⟨oJ,hq.2⟩ ae ⟨oM,oM⟩;refine⟨{ u with roots:=I },[q],?_,.inr ⟨0,m,q,oJ,z,H2.roots⟩,V,by show M.free.length<=u.free.length+_;omega⟩;unfold rootTo;rw[O];dsimp only;rw[if_neg (fun h=>h rfl),U]
 | succ h=>
  have ah:=hN;obtain⟨es,hh,rfl,hm,aI,rfl,hk,aG,ao,hp⟩:=hN;have K:(inOf es).kids.length=es.length:=(by show (es.map _).length=_;rw[zK]);have aR:2<=n:=by
   obtain⟨a2,_,g1,_,_,g4,_⟩:=hs
   have:=g4.right.innerTwo
   dsimp only at g1;omega
  dsimp only at aC;rw[if_neg (fun h=>nomatch h.1)];by_cases h1:es.length=1;rw[if_pos ⟨rfl,by rw[K];exact h1⟩];obtain⟨e,rfl⟩:∃e,es=[e]:=by
   match es,h1 with
   | [e],_=>exact⟨e,rfl⟩
  have ar:(inOf [e]).kids.getD 0 0=e.2.page:=rfl;rw[ar];have he:=(hp e oL).1;have hq:=qba st.wf (he.used st.over e.2.page he.mem);have aK:wrap .u32 ((((h+1+1:Nat):Int))-1)=((h+1:Nat):Int):=(by rw[qaQ _];omega);rw[aK];obtain⟨u,I,O,U,V,z,J,aL⟩:=ab (a:=e.2.page) (b:=((cutP key L).length:Int)) (c:=((h+1:Nat):Int)) ⟨oJ,hq.2⟩ ae ⟨oJ,oJ⟩;rw[O];dsimp only;rw[if_neg (fun h=>h rfl),U];have au:cutP key L=e.2.prs:=(by rw[aI];simp);have av:[e].flatMap (·.2.pages)=e.2.pages:=oL;refine⟨_,_,rfl,.inr ⟨h,e.2.size,e.2.page,oJ,z,?_⟩,V,by show M.free.length<=u.free.length+_;omega⟩;rw[au,av];exact (he.frame fun x hx=>aL x (by rw[av];exact hx)).roots;rw[if_neg (fun h=>h1 (by rw[<- K];exact h.2))];have h2:2<=m:=oJ;obtain⟨q,u,O,y,H2,J⟩:=ah.store st.wf st.over (show 2<=m from h2) E G oJ;have ai:Step D M u (p::R) ([q]++es.flatMap (·.2.pages)):=Step.kid (Q:=[q]) (hs.used ho) hn st y;have hq:=qba y.wf (y.has q oL);obtain⟨I,U,V,z⟩:=ai.root (a:=q) (b:=((cutP key L).length:Int)) (c:=((h+1+1:Nat):Int)) ht hr ⟨oJ,hq.2⟩ ae ⟨oJ,oJ⟩;refine⟨{ u with roots:=I },[q]++es.flatMap (·.2.pages),?_,.inr ⟨h+1,m,q,oJ,z,H2.roots⟩,V,by show M.free.length<=u.free.length+_;omega⟩;unfold rootTo;rw[O];dsimp only;rw[if_neg (fun h=>h rfl),U]
end
section
def refStep (k v:Key) (d:Bool) (x:Key×Key):Prs×Bool:=((if cmpL x.1 k>=0/\d=false then [(k,v)] else [])++(if cmpL x.1 k≠0 then [x] else []),d||decide (cmpL x.1 k>=0))
def refP (k v:Key):Bool->Prs->Prs
 | d,[]=>if d then [] else [(k,v)]
 | d,x::r=>(refStep k v d x).1++refP k v (refStep k v d x).2 r
def qjy{k v:Key}:∀ {r:Prs},(∀x∈r,KLt k x.1)->refP k v true r=r
 | [],_=>rfl
 | x::r,h=>by
  have u:=h x oL;have z:cmpL x.1 k≠0:=fun e=>by have:=qf3 e;rw[this] at u;exact qaD u
  rw[refP,refStep];dsimp only;rw[if_neg (fun h=>nomatch h.2),if_pos z,Bool.true_or,qjy fun y A=>h y (zN _ A)];rfl
def qqw{k v:Key}:∀ {l:Prs},SortP l->refP k v false l=insP k v l
 | [],_=>rfl
 | x::r,h=>by
  have C:=yI.1 (show (x.1::keysP r).Pairwise KLt from h);rw[refP,refStep,insP];dsimp only;rw[Bool.false_or];by_cases h2:KLt k x.1;have A:cmpL x.1 k=1:=by
   have:=qcI k x.1
   have:=qhU x.1 k
   have u:cmpL k x.1<0:=h2;omega
  rw[if_pos h2,A,if_pos ⟨oM,rfl⟩,if_pos oM,zZ oM,qjy fun y E=>qaB h2 (C.1 y.1 (zY E))];rfl;by_cases u:k=x.1;have A:cmpL x.1 k=0:=(by rw[u];exact qf2 _);rw[if_neg h2,if_pos u,A,if_pos ⟨oM,rfl⟩,if_neg oM,zZ oM,qjy fun y E=>by rw[u];exact C.1 y.1 (zY E)];rfl;have G:KLt x.1 k:=by rcases qn9 k x.1 with z|z|z;exact absurd z h2;exact absurd z u;exact z
  have A:cmpL x.1 k<0:=G;rw[if_neg h2,if_neg u,if_neg (fun h=>absurd h.1 oJ),iP,zU oJ,qqw C.2];rfl
def qtV{k:Key}{l:Prs}{i:Nat}(h:i<l.length):cutP k (l.take (i+1))=cutP k (l.take i)++if l[i].1=k then [] else [l[i]]:=by rw[yF h];unfold cutP;rw[filter_append];congr 1;by_cases h2:l[i].1=k;rw[if_pos h2];simp[h2];rw[if_neg h2];simp[h2]
def qb6{D:DiskM}{M:PgM}{k v:Nat}{L:Prs}(y:TreeIs D M k v t L P):(rootM M t).2.2.toNat<=L.length/\P.length<=2*L.length/\(rootM M t).2.1=L.length/\0<=(rootM M t).2.2:=by
 rcases y with ⟨u,rfl,rfl⟩|⟨h,n,p,A,u,z⟩;rw[u];exact⟨zM _,zM _,rfl,Int.le_refl _⟩
 have:=z.counts
 dsimp only at this;rw[u];dsimp only;rw[zJ];omega
def TreeIs.sort{D:DiskM}{M:PgM}{k v:Nat}{t:Int}{L:Prs}{P:List Int}(y:TreeIs D M k v t L P):SortP L/\PrsOk k v L:=by rcases y with ⟨_,rfl,_⟩|⟨h,n,p,A,C,u⟩;exact⟨.nil,fun x z=>nomatch z⟩;exact⟨u.sort,u.prsOk⟩
def qsf(h:good t):∃k v:Nat,shp t=((k:Int),(v:Int))/\CapsOk k v/\1<=k/\k<=24/\1<=v/\v<=108:=by obtain⟨u,y⟩:=h;have:t=0\/t=1\/t=2\/t=3\/t=4\/t=5\/t=6\/t=7:=oJ;rcases this with rfl|rfl|rfl|rfl|rfl|rfl|rfl|rfl;exact⟨16,88,rfl,⟨oM,oM⟩,oM,oM,oM,oM⟩;exact⟨16,108,rfl,⟨oM,oM⟩,oM,oM,oM,oM⟩;exact⟨16,1,rfl,⟨oM,oM⟩,oM,oM,oM,oM⟩;exact⟨16,16,rfl,⟨oM,oM⟩,oM,oM,oM,oM⟩;exact⟨24,16,rfl,⟨oM,oM⟩,oM,oM,oM,oM⟩;exact⟨24,16,rfl,⟨oM,oM⟩,oM,oM,oM,oM⟩;exact⟨24,65,rfl,⟨oM,oM⟩,oM,oM,oM,oM⟩;exact⟨1,8,rfl,⟨oM,oM⟩,oM,oM,oM,oM⟩
structure Sole (D:DiskM) (M:PgM) (k v c:Nat) (t:Int) (L:Prs) (P:List Int):Prop where
 tree:TreeIs D M k v t L P
 wf:M.Wf
 over:M.over=false
 len:M.roots.length=24
 nodup:P.Nodup
 named:M.Named
 many:M.named.length=c
 use:∀ x,InUse M x->x∈P
section
variable {D:DiskM} {M M':PgM} {k v c:Nat} {t:Int} {L L':Prs} {P P':List Int}
def Sole.next(h:Sole D M k v c t L P)(z:TreeIs D M' k v t L' P')(u:RStep D M M' t P P'):Sole D M' k v c t L' P' where
 tree:=z
 wf:=u.wf
 over:=u.step.over
 len:=u.len
 nodup:=u.step.nodup
 named:=u.step.Named h.named
 many:=by have:=u.step.named;rw[<- h.many,<- this]
 use:=fun x A=>(u.step.use x A).elim id fun y=>absurd (h.use x y.1) y.2
end
def qoB{D:DiskM}{n k v:Nat}(K:0<=t/\t<8)(O:8<=n)(Q:n<=4096)(G:(madeM n).Wf):Sole D (madeM n) k v ((n-2)-needP (n-2)) t [] []:=by
 have C:(madeM n).roots=zs 24:=rfl;have u:(zs 24).length=24:=(by simp[zs]);have z:∀i,(zs 24).getD i 0=0:=fun i=>by rw[yQ];unfold zs;rw[List.getElem?_replicate];split<;>rfl
 refine⟨.inl ⟨?_,rfl,rfl⟩,G,rfl,by rw[C];exact u,.nil,qgF _ _ _ _ _,?_,fun x y=>?_⟩;unfold rootM;split;rfl;rw[C,z,z,z];show (nums n).length=_;unfold nums;rw[yB,qhJ];rcases y with y|y;cases y;obtain⟨I,E,J,A,R,_⟩:=qay.1 y;have e:(madeM n).sup.2.getD 0 0=n:=(by show wrap .u32 (n:Int)=_;exact qaQ _);rw[e] at E;have h:=qhK.2 ⟨I,E⟩;rw[<- xC (needP (allV n).length) (allV n)] at h;rcases zD.1 h with h|h;exact absurd h J;exact absurd h A
end
section
section
variable {D:DiskM} {M M':PgM} {k v c:Nat} {t:Int} {L L':Prs} {P P':List Int}
def Has.pages_lt(E:4<=(capsV k v).1):∀ {h:Nat} {s:Seg},Has D M k v h s->minOf k v h<=s.size->s.pages.length+1<=s.prs.length
 | 0,s,z,A=>by have C:(capsV k v).1 / 2<=s.size:=A;rw[z.2.1] at C;rw[z.1,xI];omega
 | h+1,s,⟨G,Q,C,I,J,u,R,U,K⟩,A=>by
  have V:=u.right.innerTwo.1;rw[I,J];have key:∀l:List Ent,(∀e∈l,Has D M k v h e.2/\minOf k v h<=e.2.size)->(l.flatMap (·.2.pages)).length+l.length<=(l.flatMap (·.2.prs)).length:=by
   intro l;induction l with
   | nil=>intro _;simp
   | cons a l ih=>
    intro y;have i:=ih fun e O=>y e (zN _ O);have j:=Has.pages_lt E (y a oL).1 (y a oL).2;rw[yG,yG,zF,zF,yH];omega
  have:=key G K
  rw[yH];omega
def Has.pages_le(A:4<=(capsV k v).1){h:Nat}{s:Seg}(u:Has D M k v h s):s.pages.length<=s.prs.length:=by
 cases h with
 | zero=>
  have:=length_pos_iff.2 u.ne
  rw[u.1,xI];omega
 | succ h=>
  obtain⟨C,K,O,E,G,y,Q,R,I⟩:=u;have U:=y.right.innerTwo.1;rw[E,G];have key:∀l:List Ent,(∀e∈l,Has D M k v h e.2/\minOf k v h<=e.2.size)->(l.flatMap (·.2.pages)).length+l.length<=(l.flatMap (·.2.prs)).length:=by
   intro l;induction l with
   | nil=>intro _;simp
   | cons a l ih=>
    intro z;have i:=ih fun e J=>z e (zN _ J);have j:=Has.pages_lt A (z a oL).1 (z a oL).2;rw[yG,yG,zF,zF,yH];omega
  have:=key C I
  rw[yH];omega
def TreeIs.pages_le(u:4<=(capsV k v).1)(y:TreeIs D M k v t L P):P.length<=L.length:=by rcases y with ⟨z,rfl,rfl⟩|⟨h,n,p,C,z,A⟩;exact zM _;exact A.pages_le u
def Sole.room3(h:Sole D M k v c t L P)(u:4<=(capsV k v).1)(A:3*L.length+1<=c):2*(rootM M t).2.2.toNat+1<=M.free.length:=by have y:=h.named.length_eq;rw[zF,h.many] at y;have C:(M.fresh.map (·.1)).length<=P.length:=List.Nodup.length_le_of_subset h.wf.keysNodup fun x z=>h.use x (.inl z);have E:=h.tree.pages_le u;have G:=(qb6 h.tree).1;omega
def Sole.insert3{key val:Key}(h:Sole D M k v c t L P)(u:CapsOk k v)(y:4<=(capsV k v).1)(z:0<=t/\t<8)(A:key.length=k/\IsB key)(C:val.length=v/\IsB val)(E:3*L.length+1<=c)(J:L.length<=100000): ∃M' P',insertN D k v t key val (rootM M t).2.2.toNat M=(0,M')/\Sole D M' k v c t (insP key val L) P':=by obtain⟨M',P',e,G,I,_⟩:=qjf u z A C h.tree h.wf h.over h.len h.nodup oJ (h.room3 y E);exact⟨M',P',e,h.next G I⟩
end
end
section
section
variable {D D':DiskM} {M M':PgM} {k v:Nat} {t:Int} {L:Prs} {P:List Int}
def Has.frameD:∀ {h:Nat} {s:Seg},Has D M k v h s->(∀x∈s.pages,pagerReadM D' M' x=pagerReadM D M x)->Has D' M' k v h s
 | 0,s,⟨y,A,u,C⟩,z=>⟨y,A,u,by rw[z s.page (by rw[y];simp)];exact C⟩
 | h+1,s,⟨I,J,y,A,u,C,K,O,G⟩,z=>⟨I,J,y,A,u,C,by rw[z s.page (by rw[u];simp)];exact K,O,fun e E=>⟨(G e E).1.frameD fun x Q=>z x (by rw[u];exact zN _ (yJ.2 ⟨e,E,Q⟩)),(G e E).2⟩⟩
structure Calm (D:DiskM) (M:PgM) (b q:Nat):Prop where
 quiet:Quiet D
 waits:D.waits=[]
 size:D.size=b
 blocks:M.sup.2.getD 0 0=b
 b8:8<=b
 wf:M.Wf
 named:M.Named
 over:M.over=false
 len:M.roots.length=24
 seq:0<=M.sup.1/\M.sup.1<=q
 turn:0<=M.turn/\M.turn<=q
structure Kept (D:DiskM) (M:PgM) (D':DiskM) (M':PgM):Prop where
 roots:M'.roots=M.roots
 use:∀ x,InUse M' x↔InUse M x
 read:∀ x,InUse M x->pagerReadM D' M' x=pagerReadM D M x
end
end
end
section
open Go Go.Pt List
open Go.IntKind (wrap)
attribute [local irreducible] ld ldA ldV fld fldA newZ st new idx idxS idxA slc slcS slcP mkS chk nn call callV inv run runQ runU join loop held ext rng undefer s2a nxt ent IntKind.wrap
variable {F':List Nat} {K:Int->WP} {body:List Int}
structure TW (dbk pb:Nat) (FD:List Nat) (D:DiskM) (j:Nat) (w:World) (Y F:List Nat) (M:PgM):Prop where
 disk:DiskAt w dbk FD D
 lim:Lim D j
 pager:PagerAt w (FD++HG::Y) pb (dbOf dbk M) F M
 hv:Hv w
 wf:M.Wf
 sep:∀ b∈Y,b∉FD/\b≠HG
abbrev Zo (FD Y F:List Nat):List Nat:=(FD++HG::Y)++F
section
variable {dbk pb j:Nat} {FD Y Y' F:List Nat} {D:DiskM} {w w':World} {M:PgM}
def TW.frame0(h:TW dbk pb FD D j w Y F M)(f:Fr [] w w'):TW dbk pb FD D j w' Y F M:=⟨h.disk.frame0 f,h.lim,h.pager.frame0 f,h.hv.frame0 f,h.wf,h.sep⟩
def TW.ylt(h:TW dbk pb FD D j w Y F M):∀b∈Y,b<w.heap.size:=fun b u=>h.pager.xlt b (by simp[u])
def TW.zlt(h:TW dbk pb FD D j w Y F M):∀b∈Zo FD Y F,b<w.heap.size:=fun b u=>(zD.1 u).elim (h.pager.xlt b) (h.pager.lt b)
def TW.yf(h:TW dbk pb FD D j w Y F M):∀b∈Y,b∉F:=fun b u=>h.pager.sep b (by simp[u])
def TW.frameY(h:TW dbk pb FD D j w Y F M)(f:Fr Y w w')(E:∀b∈Y',b<w'.heap.size)(A:∀b∈Y',b∈Y\/w.heap.size<=b):TW dbk pb FD D j w' Y' F M where
 disk:=h.disk.frame f fun b u z=>(h.sep b z).1 u
 lim:=h.lim
 pager:=h.pager.frameX (f.mono fun b u _=>by simp[u]) (fun b u=>by
  rcases zD.1 u with u|u;exact yC (h.disk.lt b u) f.size;rcases zG.1 u with rfl|u;exact yC h.hv.lt f.size;exact E b u) fun b u=>by
  rcases zD.1 u with u|u;exact .inl (zH _ u);rcases zG.1 u with rfl|u;exact .inl oL;rcases A b u with y|y;exact .inl (by simp[y]);exact .inr y
 hv:=h.hv.frame f fun z=>(h.sep _ z).2 rfl
 wf:=h.wf
 sep:=fun b u=>by rcases A b u with y|y;exact h.sep b y;exact⟨fun C=>by have:=h.disk.lt b C;omega,fun C=>by have:=h.hv.lt;omega⟩
def TW.weakY(h:TW dbk pb FD D j w Y F M)(y:∀b∈Y',b∈Y):TW dbk pb FD D j w Y' F M:=h.frameY (.refl _ _) (fun b u=>h.ylt b (y b u)) fun b u=>.inl (y b u)
def TW.addY{B:List Nat}{w0:World}(h:TW dbk pb FD D j w0 Y F M)(f:Fr Y w0 w)(y:∀b∈B,w0.heap.size<=b/\b<w.heap.size):TW dbk pb FD D j w (B++Y) F M:=
 h.frameY f (fun b u=>(zD.1 u).elim (fun u=>(y b u).2) fun u=>yC (h.ylt b u) f.size) fun b u=>(zD.1 u).elim (fun u=>.inr (y b u).1) .inl
def qus(M:PgM)(kd:Int)(b:List Int):(makeV M kd b).2.over=M.over:=by unfold makeV;split;rfl;split;rfl;split<;>rfl
def qv3(M:PgM)(n kd:Int)(b:List Int):(putV M n kd b).2.over=M.over:=by unfold putV;split;rfl;split;rfl;split<;>rfl
def qtZ(M:PgM)(n:Int):(dropV M n).2.over=M.over:=by unfold dropV;split;rfl;split;rfl;split<;>rfl
def quQ(M:PgM)(t a b c:Int):(setRootM M t a b c).2.over=M.over:=by unfold setRootM;split;rfl;split<;>rfl
def qtW{M M':PgM}(h:M'.over=M.over):dbOf dbk M'=dbOf dbk M:=by unfold dbOf;rw[h]
def TW.next{M':PgM}(h:TW dbk pb FD D j w Y F M)(u:M'.over=M.over)(y:M'.Wf)(z:PagerAt w' (FD++HG::Y) pb (dbOf dbk M) F' M')(f:Fr F w w'):TW dbk pb FD D j w' Y F' M' where
 disk:=h.disk.frame f fun b A=>h.pager.sep b (zH _ A)
 lim:=h.lim
 pager:=by rw[qtW u];exact z
 hv:=h.hv.frame f (h.pager.sep HG oL)
 wf:=y
 sep:=h.sep
def TW.make{kind:Int}{s:Sl}{K:Int×Int->WP}(h:TW dbk pb FD D j w Y F M)(y:RdB (Zo FD Y F) w s body)(z:body.length<=100000)(A:0<=kind/\kind<256)(C:IsB body)(E:∀F' w',TW dbk pb FD D j w' Y F' (makeV M kind body).2->Fr F w w'->(∀b∈F',b∈F\/w.heap.size<=b)->K (makeV M kind body).1 w'): cW 144 [.pointer (pW pb),.b kind,s.v] [.one .u,.one .i] w K:=
 qvd h.pager y z (by have:=h.wf.all;omega) fun F' w' G f I=>E F' w' (h.next (qus M kind body) (qsa h.wf A C).1 G f) f I
def TW.put{n kind:Int}{s:Sl}(h:TW dbk pb FD D j w Y F M)(y:RdB (Zo FD Y F) w s body)(z:body.length<=100000)(A:0<=kind/\kind<256)(C:IsB body)(E:∀w',TW dbk pb FD D j w' Y F (putV M n kind body).2->Fr F w w'->K (putV M n kind body).1 w'): cW 143 [.pointer (pW pb),.u n,.b kind,s.v] [.one .i] w K:=
 qwy h.pager y z fun w' G f=>E w' (h.next (qv3 M n kind body) (quI h.wf A C).1 G f) f
def TW.drop{n:Int}(h:TW dbk pb FD D j w Y F M)(y:∀F' w',TW dbk pb FD D j w' Y F' (dropV M n).2->Fr F w w'->(∀b∈F',b∈F\/w.heap.size<=b)->K (dropV M n).1 w'): cW 111 [.pointer (pW pb),.u n] [.one .i] w K:=
 qvb h.pager (by have:=h.wf.all;omega) (by have:=h.wf.all;omega) (by have:=h.wf.all;omega) fun F' w' z f A=>y F' w' (h.next (qtZ M n) (qrS h.wf) z f) f A
def TW.read{n:Int}{K:Int×Sl×Int->WP}(h:TW dbk pb FD D j w Y F M)(y:U32 n)(z:∀s w',(∀G:List Nat,(∀b∈G,b<w.heap.size)->RdB G w' s (pagerReadM D M n).2.1)->Fr [] w w'->K ((pagerReadM D M n).1,s,(pagerReadM D M n).2.2) w'): cW 41 [.pointer (pW pb),.u n] [.one .b,.one .slice,.one .i] w K:=
 qtD h.disk h.lim h.pager h.hv y (by have:=h.wf.all;omega) (fun e A=>zL (h.wf.body e A).2.1 oM) z
def TW.root{t:Int}{K:Int×Int×Int->WP}(h:TW dbk pb FD D j w Y F M)(y:∀w',Fr [] w w'->K (rootM M t) w'): cW 10 [.pointer (pW pb),.i t] [.agg [.u,.u,.u]] w K:=qvg h.pager y
def qto{t a b c:Int}(u:M.Wf)(y:U32 a)(z:U32 b)(A:U32 c):(setRootM M t a b c).2.Wf:=by unfold setRootM;split;exact u;split;exact u;refine qqR u fun x h=>?_;simp only[zD,zG,xV,or_false] at h;rcases h with (h|rfl|rfl|rfl)|h;exact u.roots x (yU h);exact y;exact z;exact A;exact u.roots x (yT h)
def TW.setRoot{t a b c:Int}(h:TW dbk pb FD D j w Y F M)(y:U32 a)(z:U32 b)(A:U32 c)(C:∀w',TW dbk pb FD D j w' Y F (setRootM M t a b c).2->Fr F w w'->K (setRootM M t a b c).1 w'): cW 19 [.pointer (pW pb),.i t,.agg #[.u a,.u b,.u c]] [.one .i] w K:=
 qqY h.pager fun w' E f=>C w' (h.next (quQ M t a b c) (qto h.wf y z A) E f) f
def TW.room(h:TW dbk pb FD D j w Y F M)(u:K M.free.length w):cW 13 [.pointer (pW pb)] [.one .i] w K:=qvf h.pager u
def TW.znew(h:∀b∈F',b∈F\/w.heap.size<=b):∀b∈Zo FD Y F',b∈Zo FD Y F\/w.heap.size<=b:=qnq h
def qlP(h:M.Wf)(t:Int):U32 (rootM M t).1/\U32 (rootM M t).2.1/\U32 (rootM M t).2.2:=by
 have key:∀n,U32 (M.roots.getD n 0):=fun n=>by
  rw[yQ];cases e:M.roots[n]? with
  | none=>exact⟨oM,oM⟩
  | some x=>exact h.roots x (yE e)
 unfold rootM;split;exact⟨⟨oM,oM⟩,⟨oM,oM⟩,⟨oM,oM⟩⟩;exact⟨key _,key _,key _⟩
end
section
def qp7{w:World}{mb:Nat}{g:List (Int×Value)}{K:Option Nat->WP}(h:MapS u32V w mb g)(E:∀y w',y=w.heap.size->MapS u32V w' y g->Fr [] w w'->K (some y) w'): cW 182 [.map (some mb)] [.one .map] w K:=by
 refine qoO ?_;unfold qkO;refine cond_false rfl ?_;obtain⟨C,c,G,I,J,O⟩:=h;have A:(Extern.MapsClone.clone #[.iface MLT (.map (some mb))]).run prog w=.ok (.iface MLT (.map (some w.heap.size))) (w.alloc (.map C c)):=by
  have e:Extern.MapsClone.clone #[.iface MLT (.map (some mb))]=(getObj mb >>=fun o=>match o with
    | .map u z=>(newObj (.map u z) >>=fun n=>pure (.iface MLT (.map (some n))))
    | _=>stuck "maps.clone: a map expected"):=rfl
  rw[e];simp[Go.MapKept.run_getObj_map G,Result.andThen,go_sem]
 refine qi9 (e:=Extern.MapsClone.clone) Tryz.func216 (by kernel_rfl) (by kernel_rfl) (by kernel_rfl) (by kernel_rfl) (.iface MLT (.map (some w.heap.size))) (w.alloc (.map C c)) A<|qaN (ts:=[Ty1.one .map]) (some w.heap.size) ?_ ?_;simp[Instr.typeAssert,run_underlying (show prog.underlying MLT=some (.map 32 171) by kernel_rfl),go_sem,Result.andThen];rfl;exact E _ _ rfl ⟨C,c,by rw[qbp,if_pos rfl],I,J,O⟩ ((Fr.refl [] w).alloc _)
def qoN{P:Program}{t d:TypeId}{a:Addr}(D:Nat)(h:P.underlying t=some (.pointer d))(hi:(P.info? d).isSome=true)(u:sizeT P d≠0)(w:World): (Op.equalIn (D+1) t (.pointer (some a)) (.pointer (some a))).run P w=.ok true w:=by simp[Op.equalIn,run_underlying h,qav hi,sameAddr,u]
def qxe{P:Program}{t d:TypeId}{x y:Operand}{a:Addr}{w:World}{K:Bool->Prop}(u:P.underlying t=some (.pointer d))(hi:(P.info? d).isSome=true)(h:Nat.beq (sizeT P d) 0=false)(k:K false): runQ [Ty1.one Cell.bool] (fun w'=>(do eqGuard .neq t x y (.pointer (some a)) (.pointer (some a));binOp .neq t (.pointer (some a)) (.pointer (some a)):Sem Value).run P w') w K:=by have z:=qoN (P:=P) (a:=a) 9999 u hi (fun e=>by rw[e] at h;cases h) w;have A:(binOp .neq t (.pointer (some a)) (.pointer (some a))).run P w=.ok (.bool false) w:=qaz (P:=P) true z;unfold runQ;refine⟨false,?_,k⟩;simp[eqGuard,A];rfl
section
variable {w:World} {S:List Nat}
structure WorkAt (w:World) (S:List Nat) (fb defb mb:Nat) (F1 F2:List Nat) (fs:List (Int×Leaf)) (q:PgM):Prop where
 free:PoolAt w fb F1 q.free
 deferred:PoolAt w defb F2 q.deferred
 map:MapS u32V w mb (fs.map fun e=>(e.1,leafV e.2))
 fresh:q.fresh=fs.map fun e=>(e.1,e.2.1,e.2.2.2)
 bodies:∀ e∈fs,RdB S w e.2.2.1 e.2.2.2
 out:∀ b∈mb::(F1++F2),b∉S
 apart:mb∉F1/\mb∉F2/\∀ b∈F1,b∉F2
 roots:q.roots.length=24
def WorkAt.lt{fb defb mb:Nat}{F1 F2:List Nat}{y:List (Int×Leaf)}{q:PgM}(h:WorkAt w S fb defb mb F1 F2 y q):∀b∈mb::(F1++F2),b<w.heap.size:=fun b u=>by rcases zG.1 u with rfl|u;exact h.map.lt;exact (zD.1 u).elim (h.free.lt b) (h.deferred.lt b)
def WorkAt.frame{fb defb mb:Nat}{F1 F2:List Nat}{y:List (Int×Leaf)}{q:PgM}{S':List Nat}{w':World}(h:WorkAt w S fb defb mb F1 F2 y q)(f:Fr S w w')(z:∀b∈S',b∈S\/w.heap.size<=b):WorkAt w' S' fb defb mb F1 F2 y q where
 free:=h.free.frame f fun b u=>h.out b (by simp[u])
 deferred:=h.deferred.frame f fun b u=>h.out b (by simp[u])
 map:=h.map.frame f (h.out mb oL)
 fresh:=h.fresh
 bodies:=fun e A=>(h.bodies e A).frame f z
 out:=fun b u C=>(z b C).elim (h.out b u) fun E=>by have:=h.lt b u;omega
 apart:=h.apart
 roots:=h.roots
def qoI(x y:Option Addr)(m:Option Nat)(roots:List Int):(workV x y m roots).all Value.oneCell'=true:=by rw[all_eq_true];intro v h;simp only[workV,zD,zG,mem_map,xV,or_false] at h;rcases h with (rfl|rfl|rfl)|⟨x,_,rfl⟩<;>rfl
def qxZ:((prog.info? WKT).bind (·.zero)).map (fun z=>z.cells.toList)=some (workV none none none (zs 24)):=by kernel_rfl
def qnR{fb defb mb:Nat}{F1 F2:List Nat}{fs:List (Int×Leaf)}{q:PgM}{K:List Value->WP}(h:WorkAt w S fb defb mb F1 F2 fs q)(ae:q.free.length<=1000000)(af:q.deferred.length<=1000000)(hk:∀A u C J O w',WorkAt w' S A u C J O fs q->Fr [] w w'->(∀b∈C::(J++O),w.heap.size<=b)->K (workV (pW A) (pW u) (some C) q.roots) w')(hS:∀b∈S,b<w.heap.size): cW 141 [.agg (workV (pW fb) (pW defb) (some mb) q.roots).toArray] [.raw] w K:=by
 refine qid ?_;unfold qet;have hr:=h.roots;refine oB (oE [] w) fun r1 w1 e1 f1 ag=>oI ag qxZ fun r3 w2 e3 ah=>?_;have I:=ah.drew;generalize World.drew w2=wd at I;refine oA I 1 rfl (pW fb) rfl<|oA I 1 rfl (pW defb) rfl<|oA I 1 rfl (some mb) rfl<|qry (h.free.frame I.fr fun _ _ h=>nomatch h) ae fun A J w4 p1 f4 n1=>?_;have Q:=I.frame0 f4;refine qan (Q.cell 1 rfl rfl) (Q.cell 1 rfl rfl)<|qry (h.deferred.frame (I.fr.trans f4) fun _ _ h=>nomatch h) af fun u O w5 p2 f5 n2=>?_;have R:=Q.frame0 f5;refine qaj (R.cell 1 rfl rfl)<|qp7 (h.map.frame R.fr fun h=>nomatch h) fun C w6 em p3 f6=>?_;have am:=R.frame0 f6;refine oG am 1 rfl (workV (pW A) (pW defb) (some mb) q.roots).toArray rfl rfl (by rw[size_toArray,qaw hr];exact zO rfl) fun w7 an f7=>oG an 1 rfl (workV (pW A) (pW u) (some mb) q.roots).toArray rfl rfl (by rw[size_toArray,qaw hr];exact zO rfl) fun w8 ao f8=>oG ao 1 rfl (workV (pW A) (pW u) (some C) q.roots).toArray rfl rfl (by rw[size_toArray,qaw hr];exact zO rfl) fun w9 ab f9=>?_;have U:=qaw (x:=pW A) (y:=pW u) (m:=some C) hr;refine qa0 (ab.at (i:=1) rfl) (workV (pW A) (pW u) (some C) q.roots) U (by rw[xD,zS (Nat.le_of_eq U)])<|qaP U<|oG ab 0 rfl (workV (pW A) (pW u) (some C) q.roots).toArray (qcv (by rw[size_toArray,U,qaw (qaK 24)])) (qoI _ _ _ _) (by rw[size_toArray,U,qaw (qaK 24)];exact zO rfl) fun ac G ap=>qa0 (G.at (i:=0) rfl) (workV (pW A) (pW u) (some C) q.roots) U (by rw[xD,zS (Nat.le_of_eq U)]) ?_;have aq:=qac (I.at (i:=1) rfl);have ar:=qac (I.at (i:=0) rfl);have g7:Fr [r1,r3] w6 ac:=(((f7.mono fun b z _=>by rw[zE.1 z];simp).trans (f8.mono fun b z _=>by rw[zE.1 z];simp)).trans (f9.mono fun b z _=>by rw[zE.1 z];simp)).trans (ap.mono fun b z _=>by rw[zE.1 z];simp);have s4:=f4.size;have s5:=f5.size;have s0:=I.fr.size;have V:∀b,b∈[r1,r3]->b<wd.heap.size:=fun b z=>by rcases zG.1 z with rfl|z;exact aq;rw[zE.1 z];exact ar
 have l1:=p1.lt;have l2:=p2.lt;refine hk A u C J O ac ?_ G.fr fun b z=>?_;refine⟨(p1.frame (f5.trans f6) fun _ _ h=>nomatch h).frame g7 (fun b z E=>by have:=n1 b z;have:=V b E;omega),(p2.frame f6 fun _ _ h=>nomatch h).frame g7 (fun b z E=>by have:=n2 b z;have:=V b E;omega),p3.frame g7 (fun E=>by have:=V _ E;omega),h.fresh,fun e he=>?_,fun b z E=>?_,⟨fun E=>by have:=l1 _ E;omega,fun E=>by have:=l2 _ E;omega,fun b z E=>by have:=l1 b z;have:=n2 b E;omega⟩,hr⟩;exact (h.bodies e he).frame (G.fr.mono fun b z=>nomatch z) fun b z=>.inl z
 have:=hS b E
 rcases zG.1 z with rfl|z;omega;rcases zD.1 z with z|z
 have:=n1 b z;omega
 have:=n2 b z;omega
 rcases zG.1 z with rfl|z;omega;rcases zD.1 z with z|z
 have:=n1 b z;omega
 have:=n2 b z;omega
end
abbrev MKT:TypeId:=255
def markV (pb:Nat) (turn:Int) (wk:List Value):List Value:=[.pointer (pW pb),.i turn]++wk
def MarkAt (w:World) (S:List Nat) (h pb:Nat) (q:PgM):Prop:=
 ∃fb defb mb u y z,w.heap[h]?=some (.cells (markV pb q.turn (workV (pW fb) (pW defb) (some mb) q.roots)).toArray MKT (0,0))/\WorkAt w S fb defb mb u y z q/\h∉S
def MarkAt.frame{w w':World}{S S':List Nat}{u pb:Nat}{q:PgM}(h:MarkAt w S u pb q)(f:Fr S w w')(z:∀b∈S',b∈S\/w.heap.size<=b):MarkAt w' S' u pb q:=by obtain⟨fb,defb,mb,C,E,G,y,I,A⟩:=h;exact⟨fb,defb,mb,C,E,G,by rw[f.block u (qac y) A];exact y,I.frame f z,fun J=>(z u J).elim A fun K=>by have:=qac y;omega⟩
def qx9:((prog.info? MKT).bind (·.zero)).map (fun z=>z.cells.toList)=some ([Value.pointer none,.i 0]++workV none none none (zs 24)):=by kernel_rfl
def qsZ{p:Option Addr}{t:Int}{x y:Option Addr}{m:Option Nat}{roots:List Int}(E:roots.length=24)(w:World): (Instr.build MKT #[(0,.pointer p),(1,.i t),(2,.agg (workV x y m roots).toArray)]).run prog w=.ok (.agg ([Value.pointer p,.i t]++workV x y m roots).toArray) w:=by
 obtain⟨z,G,h⟩:=yS.1 qx9;have u:z.cells=([Value.pointer none,.i 0]++workV none none none (zs 24)).toArray:=(by rw[<- h]);have C:=qaw (x:=x) (y:=y) (m:=m) E;refine qc5 (parts:=[(0,.pointer p),(1,.i t),(2,.agg (workV x y m roots).toArray)]) (offs:=#[(0,1),(1,1),(2,27)]) G oK (fun w=>oK) ?_ w;have I:(Value.agg (workV x y m roots).toArray).cells.size=27:=(by show (workV x y m roots).toArray.size=27;rw[size_toArray,C]);rw[u,qaF (o:=0) (s:=1) rfl rfl (zO rfl),qaF (o:=1) (s:=1) rfl rfl (zO rfl),qaF (o:=2) (s:=27) rfl I (zO rfl)];refine congrArg some ?_
 have:=qa5 (A:=[Value.pointer p,.i t]) (X:=workV none none none (zs 24)) (Z:=[]) (Y:=workV x y m roots) (by rw[C,qaw (qaK 24)])
 rw[xF,xF] at this;exact this
section
variable {w:World} {X:List Nat} {pb:Nat} {db:Option Addr} {F:List Nat} {M:PgM}
def qvZ{sup:Sup}{sl sn:Sl}{turn:Int}{over:Bool}{fb defb mb:Nat}{roots:List Int}(u:sup.2.length=27)(y:roots.length=24):((pgCells db sup sl sn turn over fb defb mb roots).toList.drop 33).take 27=workV (pW fb) (pW defb) (some mb) roots:=by have h:((Value.pointer db::supV sup.1 sup.2)++([sl.v,sn.v,.i turn,.bool over]:List Value)).length=33:=(by rw[zF,qa2 u];rfl);rw[<- qbw];show (((Value.pointer db::supV sup.1 sup.2)++([sl.v,sn.v,.i turn,.bool over]:List Value)++workV (pW fb) (pW defb) (some mb) roots).drop 33).take 27=_;rw[<- h,drop_left,zS (by rw[qaw y];exact zM _)]
def PgX.work{fb defb mb:Nat}{sl sn:Sl}{F1 F2:List Nat}{y:List (Int×Leaf)}(u:PgX w X pb db M fb defb mb sl sn F1 F2 y):WorkAt w [] fb defb mb F1 F2 y M:=
 ⟨u.free,u.deferred,u.map,u.fresh,fun e A=>(u.rows.bodies e A).weak oL,fun b z h=>(nomatch h),⟨fun h=>(u.sep.2.1 mb h).2.1 rfl,fun h=>(u.sep.2.2 mb h).2 rfl,fun b z h=>(u.sep.2.1 b z).2.2 h⟩,u.rootlen⟩
def qvh{K:Option Addr->WP}(h:PagerAt w X pb db F M)(U:M.free.length<=1000000)(V:M.deferred.length<=1000000)(aa:M.over=true->K none w)(hk:M.over=false->∀A w',MarkAt w' (X++F) A pb M->Fr [] w w'->K (pW A) w'): cW 104 [.pointer (pW pb)] [.one .ptr] w K:=by
 have G:=h.lt;have z:∀b∈X,b<w.heap.size:=by obtain⟨fb,defb,mb,sl,sn,F1,F2,fs,rfl,u⟩:=h;exact u.xlt
 obtain⟨fb,defb,mb,sl,sn,F1,F2,fs,rfl,u⟩:=h;refine qiR ?_;unfold qeO;refine qae (qah u.cell M.over (qc4 u.suplen) ?_);refine qaa (fun ho=>aa (oP ho)) (fun ho=>?_);have I:=u.frame0 (Fr.refl [] w).drew;have fd:Fr [] w w.drew:=(Fr.refl [] w).drew;generalize World.drew w=wd at I fd;refine qae (qah I.cell M.turn (qnx u.suplen) ?_);refine qae ?_;simp only[xO];refine qa0 I.cell (workV (pW fb) (pW defb) (some mb) M.roots) (qaw u.rootlen) (qvZ u.suplen u.rootlen)<|qnR I.work U V (fun J y O ad ae w2 E f2 n2=>?_) (fun b Q=>nomatch Q);have h2:=I.frame0 f2;refine qaj (by show _=_;rw[qai h2.cell];exact qnx u.suplen)<|qaN (ts:=[Ty1.raw]) (markV pb M.turn (workV (pW J) (pW y) (some O) M.roots)) (qsZ u.rootlen w2)<|oB (oE [] w2) fun A w3 e3 R af=>?_;have C:=fd.trans f2;refine hk (oP ho) A w3 ⟨J,y,O,ad,ae,fs,af.at (i:=0) rfl,?_,fun hm=>?_⟩ (C.trans R);have Q:∀b∈X++pb::mb::(F1++F2),b<w.heap.size:=fun b Q=>(zD.1 Q).elim (z b) (G b);refine⟨E.free.frame R fun _ _ h=>(nomatch h),E.deferred.frame R fun _ _ h=>(nomatch h),E.map.frame R fun h=>(nomatch h),E.fresh,fun e he=>(u.rows.bodies e he).frame0 (C.trans R),fun b ah hm=>?_,E.apart,E.roots⟩
 have:=n2 b ah
 have:=Q b hm
 have:=fd.size
 omega;have:A<w.heap.size:=(zD.1 hm).elim (z A) (G A)
 have:=C.size
 omega
def qva{S:List Nat}{m:Option Addr}{q:PgM}(h:PagerAt w X pb db F M)(hS:∀b∈X++F,b∈S)(hm:m≠none->∃kb,m=pW kb/\MarkAt w S kb pb q/\q.free.length<=1000000/\q.deferred.length<=1000000)(av:M.over=true->K 7 w)(aw:M.over=false->(m=none\/q.turn≠M.turn)->K 10 w.drew)(hk:M.over=false->m≠none->q.turn=M.turn->∀F' w',PagerAt w' X pb db F' { M with free:=q.free,deferred:=q.deferred,fresh:=q.fresh,roots:=q.roots }->Fr F w w'->(∀b∈F',b∈F\/w.heap.size<=b)->K 0 w'): cW 105 [.pointer (pW pb),.pointer m] [.one .i] w K:=by
 obtain⟨fb,defb,mb,sl,sn,F1,F2,fs,rfl,E⟩:=h;refine qiL ?_;unfold qeI;refine qae (qah E.cell M.over (qc4 E.suplen) ?_);refine qaa (fun ho=>av (oP ho)) (fun ho=>?_);have ho:M.over=false:=(oP ho);refine qaf (fun b w'=>b=decide (m=none\/q.turn≠M.turn)/\w'=w.drew) ?_ ?_;cases m with
 | none=>exact cond_true rfl ⟨oL,rfl⟩
 | some a=>
  obtain⟨kb,e,hM,_⟩:=hm oL;obtain rfl:=yN e;obtain⟨J,z,O,ah,ai,ad,U,hW,_⟩:=hM;refine cond_false rfl<|qae (qah (w:=w.drew) (c:=.ptr) U (pW pb) rfl ?_);refine qxe (d:=98) oK oK oK<|cond_false rfl<|qae (qah (w:=w.drew) (c:=.i) U q.turn rfl ?_);refine qae (qah (w:=w.drew) (c:=.i) E.cell M.turn (qnx E.suplen) ?_);refine⟨?_,rfl⟩;by_cases e:q.turn=M.turn;simp[e];simp[e]
 rintro b w1 ⟨rfl,rfl⟩;apply qaa<;>intro U;exact aw ho (zC U);have U:=zB U;have aj:m≠none:=fun e=>U (.inl e);have ay:q.turn=M.turn:=Classical.byContradiction fun e=>U (.inr e);obtain⟨kb,rfl,hM,az,aA⟩:=hm aj;obtain⟨J,z,O,ah,ai,ad,aB,hW,_⟩:=hM;have fd:Fr [] w w.drew:=(Fr.refl [] w).drew;have ak:=E.frame0 fd;have al:w.drew.heap[kb]?=some (.cells (markV pb q.turn (workV (pW J) (pW z) (some O) q.roots)).toArray MKT (0,0)):=aB;have A:=hW.frame (S':=S) (fd.mono fun b u=>nomatch u) fun b u=>.inl u;have sd:w.drew.heap.size=w.heap.size:=rfl;generalize World.drew w=wd at ak al A fd sd;refine qae ?_;have am:=qaw (x:=pW J) (y:=pW z) (m:=some O) hW.roots;refine qa0 (off:=0+2) al (workV (pW J) (pW z) (some O) q.roots) am (by show (workV (pW J) (pW z) (some O) q.roots).take 27=_;rw[zS (Nat.le_of_eq am)]) ?_;have aC:WorkAt wd [] J z O ah ai ad q:=⟨A.free,A.deferred,A.map,A.fresh,fun e he=>(A.bodies e he).weak oL,fun b u h=>(nomatch h),A.apart,A.roots⟩;refine qnR aC az aA (fun an R C G1 G2 w2 G f2 n2=>?_) (fun b u=>nomatch u);have h2:=ak.frame0 f2;refine qae (qaP (qaw hW.roots) ?_);have aE:Own [pb] w2 w2 [(pb,.cells (pgCells db M.sup sl sn M.turn M.over fb defb mb M.roots) PGT (0,0))]:=⟨by simpa using h2.cell,oL,.refl _ _,oL⟩;refine oG aE 0 rfl (pgCells db M.sup sl sn M.turn M.over an R C q.roots) (by rw[<- qbw,<- qbw];exact qqt E.suplen (by rw[qaw E.rootlen,qaw hW.roots])) (qoI _ _ _ _) (by rw[qnw E.suplen,qaw hW.roots,E.rootlen];exact zO rfl) fun w3 aG f3=>?_;have aH:=fd.trans f2;have I:∀b∈C::(G1++G2),w.heap.size<=b:=fun b u=>by have:=n2 b u;omega
 have aT:=qac E.cell;have Q:∀b∈C::(G1++G2),b∉[pb]:=fun b u hm=>by have:=I b u;rw[zE.1 hm] at this;omega
 have V:Fr [pb] w w3:=(aH.mono fun b u=>nomatch u).trans f3;have aq:∀b∈X,b<w.heap.size:=E.xlt;have ae:∀b∈X++pb::C::(G1++G2),b∈X++pb::mb::(F1++F2)\/w.heap.size<=b:=fun b u=>by rcases zD.1 u with u|u;exact .inl (zH _ u);rcases zG.1 u with rfl|u;exact .inl (zI _ oL);exact .inr (I b u)
 have ac:Fr (X++pb::mb::(F1++F2)) w w3:=V.mono fun b u _=>by rw[zE.1 u];exact zI _ oL
 refine hk ho aj ay (pb::C::(G1++G2)) w3 ⟨an,R,C,sl,sn,G1,G2,ad,rfl,{
  cell:=aG.at (i:=0) rfl
  free:=G.free.frame f3 fun b u=>Q b (by simp[u])
  deferred:=G.deferred.frame f3 fun b u=>Q b (by simp[u])
  map:=G.map.frame f3 (Q C oL)
  fresh:=G.fresh
  rows:=⟨E.rows.lists.frame ac ae,E.rows.named.frame ac ae,fun e he=>?_⟩
  xlt:=fun b u=>yC (aq b u) V.size
  xsep:=fun b u hm=>?_
  sep:=⟨fun e=>Q C oL (by simp[e]),fun b u=>⟨fun e=>Q b (by simp[u]) (by simp[e]),fun e=>G.apart.1 (e▸u),G.apart.2.2 b u⟩,fun b u=>⟨fun e=>Q b (by simp[u]) (by simp[e]),fun e=>G.apart.2.1 (e▸u)⟩⟩
  suplen:=E.suplen
  rootlen:=hW.roots }⟩ (V.mono fun b u _=>by rw[zE.1 u];simp) fun b u=>?_
 have aI:=hW.bodies e he;refine aI.frame (V.mono fun b u _=>by rw[zE.1 u];exact hS pb (zI _ oL)) fun b u=>?_;rcases ae b u with u|u;exact .inl (hS b u);exact .inr u;rcases zG.1 hm with rfl|hm;exact E.xsep b u oL
 have:=I b hm;have:=aq b u;omega
 rcases zG.1 u with rfl|u;exact .inl oL;exact .inr (I b u)
end
end
end
section
open Go Go.Pt List
open Go.IntKind (wrap)
open Classical
attribute [local irreducible] ld ldA ldV fld fldA newZ st new idx idxS idxA slc slcS slcP mkS chk nn call callV inv run runQ runU join loop held ext rng undefer s2a nxt ent IntKind.wrap
variable {K:Sl->WP} {L':List (Nat×Obj)} {R S T Z:List Nat} {T':TypeId} {b:List Int} {hi p:Int} {i k v vb:Nat} {key l:Key} {ks s src:Sl} {n:NodeM} {ps:Kps} {w:World} {x:NdC}
abbrev WkC:=Int×Int×Int×Int×Option Addr×Int
def wkX (k v pb:Nat) (t:Int):WkC:=((k:Int),(v:Int),((capsV k v).1:Int),((capsV k v).2:Int),pW pb,t)
def wkV (x:WkC):Array Value:=#[.i x.1,.i x.2.1,.i x.2.2.1,.i x.2.2.2.1,.pointer x.2.2.2.2.1,.i x.2.2.2.2.2]
abbrev WK:TypeId:=152
def shX (k v:Nat):Int×Int×Int×Int:=((k:Int),(v:Int),((capsV k v).1:Int),((capsV k v).2:Int))
def shV (k v:Nat):Array Value:=#[.i k,.i v,.i (capsV k v).1,.i (capsV k v).2]
section
variable {S:List Nat} {w:World} {x:NdC} {n:NodeM} {k v:Nat}
structure NodeL (x:NdC) (n:NodeM):Prop where
 leaf:x.1=n.leaf
 keys:x.2.1.len=n.keys.length
 vals:x.2.2.1.len=n.vals.length
 kids:x.2.2.2.len=n.kids.length
def NodeR.lens(h:NodeR S w x n):NodeL x n:=by obtain⟨u,_,⟨pk,y,z⟩,⟨pv,A,C⟩,E⟩:=h;exact⟨u,by rw[y.len,<- z,zK],by rw[A.len,<- C,zK],E.1⟩
def qnB{K:Int×Int->WP}(h:NodeL x n)(y:∀w',Fr [] w w'->K (((sizeN n k v).1:Int),((sizeN n k v).2:Int)) w'): cW 187 [.agg (shV k v),.agg (ndV x)] [.one .i,.one .i] w K:=by refine qjR ?_;unfold qfJ;refine oB (oE [] w) fun r1 C e1 E A=>oB A fun G I J O A=>oA A 0 rfl x.1 rfl ?_;unfold sizeN at y;have u:=A.drew;apply qaa<;>intro z;rw[h.leaf] at z;rw[if_pos z] at y;refine oA u 0 rfl x.2.1 rfl<|oA u 1 rfl ((capsV k v).1:Int) rfl ?_;rw[h.keys];exact y _ u.fr;rw[h.leaf] at z;rw[if_neg (by rw[z];decide)] at y;refine oA u 0 rfl x.2.2.2 rfl<|oA u 1 rfl ((capsV k v).2:Int) rfl ?_;rw[h.kids];exact y _ u.fr
def qn2{n:NodeM}:wrap .i64 (Int.tdiv ((sizeN n k v).2:Int) 2)=(((sizeN n k v).2 / 2:Nat):Int):=by have h:=qbY (k:=k) (v:=v);have u:(sizeN n k v).2<=498:=(by unfold sizeN;split<;>omega);rw[Int.tdiv_eq_ediv_of_nonneg oJ,wi' _ oJ];rfl
def qxL{K:Bool->WP}(h:NodeL x n)(y:∀w',Fr [] w w'->K (decide (lowN n k v)) w'): cW 152 [.agg (shV k v),.agg (ndV x)] [.one .bool] w K:=by refine qkt ?_;unfold qgA;refine oB (oE [] w) fun r1 C e1 E u=>oB u fun G I J O u=>oC u 1 rfl (shX k v) rfl<|oC u 0 rfl x rfl<|qnB (k:=k) (v:=v) h fun z A=>?_;dsimp only;rw[qn2];have e:decide (((sizeN n k v).1:Int)<(((sizeN n k v).2 / 2:Nat):Int))=decide (lowN n k v):=decide_eq_decide.2 (by unfold lowN;omega);rw[e];exact y z (u.fr.trans A)
def qwb{K:Bool->WP}(h:NodeL x n)(y:∀w',Fr [] w w'->K (decide (spareN n k v)) w'): cW 192 [.agg (shV k v),.agg (ndV x)] [.one .bool] w K:=by refine qiW ?_;unfold qeT;refine oB (oE [] w) fun r1 C e1 E u=>oB u fun G I J O u=>oC u 1 rfl (shX k v) rfl<|oC u 0 rfl x rfl<|qnB (k:=k) (v:=v) h fun z A=>?_;dsimp only;rw[qn2];have e:decide (((sizeN n k v).1:Int)>(((sizeN n k v).2 / 2:Nat):Int))=decide (spareN n k v):=decide_eq_decide.2 (by unfold spareN;omega);rw[e];exact y z (u.fr.trans A)
end
def qfi{t:Int}{pb:Nat}{K:WkC×Int->WP}(C:shp t=((k:Int),(v:Int)))(E:k=0->∀x w',Fr [] w w'->K (x,4) w')(G:k≠0->ks.len≠k->∀x w',Fr [] w w'->K (x,1) w')(I:k≠0->ks.len=k->∀w',Fr [] w w'->K (wkX k v pb t,0) w'): cW 63 [.pointer (pW pb),.i t,ks.v] [.agg qak,.one .i] w K:=by
 refine qo1 ?_;unfold qld;refine oB (oE [] w) fun r1 J e1 O h=>qvn ?_;rw[C];apply qaa<;>intro y;have y:((k:Nat):Int)=0:=yO.1 y;exact oD h 0 rfl (wkV (0,0,0,0,none,0)) fun A h z=>oC h 0 rfl (0,0,0,0,none,0) rfl<|E oJ _ _ h.fr;have y:¬((k:Nat):Int)=0:=zR.1 y;apply qaa<;>intro u;have u:¬((ks.len:Int)=(k:Int)):=zR.1 (oP u);exact oD h 0 rfl (wkV (0,0,0,0,none,0)) fun A h z=>oC h 0 rfl (0,0,0,0,none,0) rfl<|G oJ oJ _ _ h.fr;have u:(ks.len:Int)=(k:Int):=by rw[yD] at u;exact yO.1 u
 refine qlg fun A z=>?_;have h:=h.frame0 z;exact oD h 0 rfl (wkV (wkX k v pb t)) fun Q h R=>oC h 0 rfl (wkX k v pb t) rfl<|I oJ oJ _ h.fr
section
variable {dbk pb j:Nat} {FD Y F:List Nat} {D:DiskM} {w:World} {M:PgM} {k v:Nat} {t:Int}
def qhc{K:NdC×Int->WP}(h:TW dbk pb FD D j w Y F M)(hp:U32 p)(G:∀x B w',TW dbk pb FD D j w' (B++Y) F M->NodeB (Zo FD (B++Y) F) w' x (loadN D M k v p).1 B->Fr [] w w'->(∀c∈B,w.heap.size<=c)->K (x,(loadN D M k v p).2) w'): cW 72 [.agg (wkV (wkX k v pb t)),.u p] [.agg qab,.one .i] w K:=by
 refine qkw ?_;unfold qgE;refine oB (oE [] w) fun r1 w1 e1 f1 z=>oB z fun r3 w2 e2 f2 z=>oA z 1 rfl (pW pb) rfl ?_;have h2:=h.frame0 z.fr;refine TW.read h2 hp fun s w7 hs f7=>?_;have z:=z.frame0 f7;have V:=hs [] (fun _ h=>nomatch h);have hB:IsB (pagerReadM D M p).2.1:=qnv h.lim.ok (fun e he=>(h.wf.body e he).2.2) p;unfold loadN at G;apply qaa<;>intro y;have ab:(pagerReadM D M p).2.2≠0:=fun e=>by dsimp only at y;rw[e] at y;exact absurd y oM
 rw[if_pos ab] at G;exact oD z 0 rfl (ndV zeroX) fun w8 z f8=>oC z 0 rfl zeroX rfl<|G zeroX [] w8 (h.frame0 z.fr) (.zero _ _) z.fr (fun _ h=>nomatch h);have he:¬(pagerReadM D M p).2.2≠0:=fun e=>by dsimp only at y;rw[yD,yO] at y;exact e y
 rw[if_neg he] at G;refine oA z 1 rfl (k:Int) rfl<|oA z 1 rfl (v:Int) rfl<|qu9 (k:=k) (v:=v) V hB fun x B am hN ac E=>?_;have I:=z.frame0 ac;have J:=qac (z.at (i:=0) rfl);dsimp only at J;have hr:∀c∈B,c∉[r3]:=fun c y hm=>by have:=E c y;rw[zE.1 hm] at this;omega
 refine oD I 0 rfl (ndV x) fun O A ad=>oC A 0 rfl x rfl ?_;have C:=hN.frame ad hr (fun c y=>.inl (by rw[zE.1 y];simp[J])) (fun c y=>.inl y);have aq:=h.frame0 A.fr;have Q:=z.fr.size;have R:TW dbk pb FD D j O (B++Y) F M:=h.addY (A.fr.mono fun _ h=>nomatch h) fun b hb=>⟨zL Q (E b hb),C.lt b hb⟩;refine G x B O R (C.weak fun c y=>.inl ?_) A.fr (fun c y=>zL Q (E c y));have U:=h.zlt;rcases zD.1 y with y|y;rcases zD.1 y with y|y
 have:=U c (by simp[y]);simp;omega
 rcases zG.1 y with y|y
 have:=U c (by simp[y]);simp;omega
 rcases zD.1 y with y|y;simp[y]
 have:=U c (by simp[y]);simp;omega
 have:=U c (by simp[y]);simp;omega
def qs7{kd:Int}{n:Int}(h:(putV M n kd b).1=10):(putV M n kd b).2=M:=by unfold putV at h⊢;split;rfl;rename_i u;rw[if_neg u] at h;split;rfl;rename_i q y;rw[y] at h;dsimp only at h;split;rfl;rename_i z;rw[if_neg z] at h;cases h
def qbu{K:Int×Int->WP}(h:TW dbk pb FD D j w Y F M)(hx:NodeR (Zo FD Y F) w x n)(h1:n.keys.length<=1000000)(h2:n.vals.length<=1000000)(h3:n.kids.length<=1000000)(O:∀F' w',TW dbk pb FD D j w' Y F' (storeN k v M p n).2->Fr F w w'->(∀b∈F',b∈F\/w.heap.size<=b)->K (storeN k v M p n).1 w'): cW 106 [.agg (wkV (wkX k v pb t)),.u p,.agg (ndV x)] [.one .u,.one .i] w K:=by
 refine qjT ?_;unfold qfL;refine oB (oE [] w) fun r1 w1 e1 f1 A=>oB A fun r3 w2 e2 f2 A=>oC A 0 rfl x rfl<|oA A 1 rfl (k:Int) rfl<|oA A 1 rfl (v:Int) rfl<|qvq (x:=x) (k:=k) (v:=v) (hx.frame0 A.fr) h1 h2 h3 fun s w9 hs f9=>?_;have A:=A.frame0 f9;have h9:=h.frame0 A.fr;have ak:IsB (writeNV n k v).2.1:=by unfold writeNV;split;exact qfZ hx.2.1.1 hx.2.1.2.1;exact fun _ h=>nomatch h
 have al:0<=(writeNV n k v).1/\(writeNV n k v).1<256:=(by unfold writeNV kindN;split;dsimp only;split<;>exact⟨oM,oM⟩;exact⟨oM,oM⟩);have am:(writeNV n k v).2.1.length<=100000:=(by unfold writeNV;split;rename_i hr;have:=(qef hr).2;dsimp only;omega;exact yW _);unfold storeN at O;apply qaa<;>intro y;have az:(writeNV n k v).2.2≠0:=fun e=>by dsimp only at y;rw[e] at y;exact absurd y oM
 rw[if_pos az] at O;exact O F w9 h9 (A.fr.mono fun _ h=>nomatch h) fun b I=>.inl I;have he:¬(writeNV n k v).2.2≠0:=fun e=>by dsimp only at y;rw[yD,yO] at y;exact e y
 rw[if_neg he] at O;have aA:=qac (A.at (i:=1) rfl);dsimp only at aA;have V:=h.zlt;have ab:r1∉F:=fun hm=>by have:=V r1 (by simp[hm]);omega
 have an:w.heap.size<=r1:=oJ;have aK:=A.fr.size;have ad:∀G:List Nat,(∀b∈G,b<w.heap.size)->RdB G w9 s (writeNV n k v).2.1:=fun G hG=>hs G fun b I=>yC (hG b I) (zL f1.size f2.size);have ae:Own F w w9 [(r1,.cells (wkV (wkX k v pb t)) WK (0,0))]:=⟨fun q hq=>by rw[zE.1 hq];exact A.at (i:=1) rfl,oL,A.fr.mono (fun _ h=>nomatch h),fun q hq=>by rw[zE.1 hq];exact .inr an⟩;generalize aX:(writeNV n k v).1=J at *
 generalize aY:(writeNV n k v).2.1=C at *
 refine qaf (fun _ w'=>(p=0\/(putV M p J C).1=10)/\TW dbk pb FD D j w' Y F M/\Own F w w' [(r1,.cells (wkV (wkX k v pb t)) WK (0,0))]/\RdB (Zo FD Y F) w' s C) ?_ ?_;apply qaa<;>intro Q;have Q:p≠0:=by rw[zT] at Q;exact zR.1 Q
 refine oA ae 0 rfl (pW pb) rfl<|TW.put h9 (ad _ V) am al ak fun aB ag ao=>?_;have ac:=ae.frame ao (fun i hi=>.inl hi) (fun q hq=>by rw[zE.1 hq];exact ab);apply qaa<;>intro z;have z:(putV M p J C).1≠10:=by rw[zT] at z;exact zR.1 z
 rw[if_pos ⟨Q,z⟩] at O;exact O F aB ag ac.fr fun b I=>.inl I;have z:(putV M p J C).1=10:=by rw[yD] at z;exact yO.1 z
 rw[qs7 z] at ag;exact⟨.inr z,ag,ac,(ad _ V).frame (ao.mono fun b I _=>by simp[I]) fun b I=>.inl I⟩;have Q:p=0:=by rw[yD] at Q;exact yO.1 Q
 exact⟨.inl Q,h9,ae,ad _ V⟩;rintro _ aZ ⟨Q,aD,R,ap⟩;rw[if_neg (fun hh=>Q.elim hh.1 hh.2)] at O;refine oA R 0 rfl (pW pb) rfl<|TW.make aD ap am al ak fun F' aE aq aF aG=>?_;have E:=R.frame aF (fun i hi=>.inl hi) (fun q hq=>by rw[zE.1 hq];exact ab);have ah:=R.fr.size;have U:∀b∈F',b∈F\/w.heap.size<=b:=fun b I=>(aG b I).imp id fun h=>zL ah h;refine qaf (fun e w'=>∃F2,e=(if (makeV M J C).1.2=0/\p≠0 then (dropV (makeV M J C).2 p).1 else (makeV M J C).1.2)/\TW dbk pb FD D j w' Y F2 (if (makeV M J C).1.2=0/\p≠0 then (dropV (makeV M J C).2 p).2 else (makeV M J C).2)/\Fr F w w'/\∀b∈F2,b∈F\/w.heap.size<=b) ?_ ?_;refine qaf (fun d w'=>d=decide ((makeV M J C).1.2=0/\p≠0)/\w'=aE) ?_ ?_;refine qaa (fun y=>⟨?_,rfl⟩) (fun y=>⟨?_,rfl⟩);have y:(makeV M J C).1.2=0:=yO.1 y;rw[Bool.eq_iff_iff,yM,zT,zR];exact⟨fun h=>⟨y,h⟩,fun h=>h.2⟩;have y:¬(makeV M J C).1.2=0:=zR.1 y;rw[zU (fun h=>y h.1)];rintro d a0 ⟨rfl,rfl⟩;apply qaa<;>intro y;have y:=zC y;rw[if_pos y,if_pos y];refine oA E 0 rfl (pW pb) rfl<|TW.drop aq fun F2 a1 aH aI aJ=>?_;have aj:=E.fr.size;refine⟨F2,rfl,aH,E.fr.trans' aI U,fun b I=>?_⟩;rcases aJ b I with h|h;exact U b h;exact .inr (zL aj h);have y:=zB y;rw[if_neg y,if_neg y];exact⟨F',rfl,aq,E.fr,U⟩;rintro e ar ⟨F2,rfl,aa,au,av⟩;by_cases y:(makeV M J C).1.2=0/\p≠0;rw[if_pos y] at O aa⊢;exact O F2 ar aa au av;rw[if_neg y] at O aa⊢;exact O F2 ar aa au av
end
section
section
variable {S:List Nat} {w:World} {s:Sl} {ps:Kps}
def RdK.take3(h:RdK S w s ps)(b:Nat){K:Sl->Prop}(y:hi=b)(A:b<=ps.length)(C:∀u,RdK S w u (ps.take b)->K u):slc s none (some hi) (some hi) 1 K:=
 Rds.part3 h.1 b y (by rw[zK];exact A) fun u z=>C u ⟨by rw[<- xL] at z;exact z,fun p E=>h.2 p (yU E)⟩
def RdK.from(h:RdK S w s ps){lo:Int}(a:Nat){K:Sl->Prop}(y:lo=a)(A:a<=ps.length)(C:∀u,RdK S w u (ps.drop a)->K u):slc s (some lo) none none 1 K:=
 Rds.part h.1 a ps.length y (by rw[xT,h.len]) A (by rw[zK];exact zM _) fun u _ z _=>C u ⟨by have e:(slsP ps).take ps.length=slsP ps:=zS (by rw[zK];exact zM _);rw[e,<- xM] at z;exact z,fun p E=>h.2 p (yT E)⟩
def RdK.upto(h:RdK S w s ps)(b:Nat){K:Sl->Prop}(y:hi=b)(A:b<=ps.length)(C:∀u,RdK S w u (ps.take b)->K u):slc s none (some hi) none 1 K:=
 Rds.part h.1 0 b rfl y (yW _) (by rw[zK];exact A) fun u _ z _=>C u ⟨by rw[xD,<- xL] at z;exact z,fun p E=>h.2 p (yU E)⟩
def qcY(ps:Kps)(b:Nat):keyP (ps.take b)=(keyP ps).take b:=xL
def qch(ps:Kps)(b:Nat):keyP (ps.drop b)=(keyP ps).drop b:=xM
def qdU{ps:Kps}(hi:i<ps.length):(keyP ps).getD i []=ps[i].2:=by rw[yQ,zQ,zA hi];rfl
def Rds.from1{α:Type}{enc:α->List Value}{l:List α}(h:Rds enc 1 S w s l){lo:Int}(a:Nat){K:Sl->Prop}(y:lo=a)(A:a<=l.length)(C:∀u,Rds enc 1 S w u (l.drop a)->K u):slc s (some lo) none none 1 K:=
 Rds.part h a l.length y (by rw[xT,h.1]) A (zM _) fun u _ z _=>C u (by rw[xX] at z;exact z)
def Rds.upto1{α:Type}{enc:α->List Value}{l:List α}(h:Rds enc 1 S w s l)(b:Nat){K:Sl->Prop}(y:hi=b)(A:b<=l.length)(C:∀u,Rds enc 1 S w u (l.take b)->K u):slc s none (some hi) none 1 K:=
 Rds.part h 0 b rfl y (yW _) A fun u _ z _=>C u (by rw[xD] at z;exact z)
end
section
variable {S:List Nat} {w:World} {x:NdC} {n:NodeM} {k v:Nat}
def MidOk (n:NodeM) (mid:Nat):Prop:=if n.leaf then mid<n.keys.length/\mid<=n.vals.length else 1<=mid/\mid<=n.keys.length/\mid<=n.kids.length
def qua{mid:Nat}{K:NdC×NdC×Sl->WP}(hx:NodeR S w x n)(hm:MidOk n mid)(hl:mid<=1000000)(kk:∀xl xr ks w',NodeR S w' xl (halvesN n mid).1->NodeR S w' xr (halvesN n mid).2.1->RdB S w' ks (halvesN n mid).2.2->Fr [] w w'->K (xl,xr,ks) w'): cW 188 [.agg (ndV x),.i mid] [.agg qab,.agg qab,.one .slice] w K:=by
 have aC:=hx;obtain⟨h0,y,⟨pk,z,u⟩,⟨pv,R,A⟩,G⟩:=hx;have l1:pk.length=n.keys.length:=(by rw[<- u,zK]);have l2:pv.length=n.vals.length:=(by rw[<- A,zK]);refine qnH ?_;unfold qjQ;have h:=oE [] w;refine oB h fun r1 w2 _ f h=>oB h fun r3 w4 _ f h=>oB h fun r5 w6 _ f h=>?_;have h:=oF h;refine⟨?a,?b⟩;case' a=>
  refine oC h 2 rfl x rfl<|oC h 2 rfl x rfl<|oB h fun r9 aq _ f h=>qan (h.cells 3 rfl rfl) (h.cells 3 rfl rfl)<|oB h fun ar au _ f h=>qan (h.cells 4 rfl rfl) (h.cells 4 rfl rfl)<|oD h 1 rfl (ndV x) fun av h f=>qaj (h.cells 4 rfl rfl)<|oD h 0 rfl (ndV x) fun aw h f=>?_
 case' b=>
  refine oC h 2 rfl x rfl<|oC h 2 rfl x rfl<|oB h fun ar aq _ f h=>qan (h.cells 3 rfl rfl) (h.cells 3 rfl rfl)<|oB h fun r9 au _ f h=>qan (h.cells 4 rfl rfl) (h.cells 4 rfl rfl)<|oD h 0 rfl (ndV x) fun av h f=>qaj (h.cells 4 rfl rfl)<|oD h 1 rfl (ndV x) fun aw h f=>?_;have h:=qh7 h (List.Perm.swap _ _ _)
 all_goals
  refine oA h 4 rfl x.1 rfl ?_;apply qaa<;>intro hc;rw[h0] at hc;unfold MidOk at hm;rw[if_pos hc] at hm;have hH:halvesN n mid=({ n with keys:=n.keys.take mid,vals:=n.vals.take mid },{ n with keys:=n.keys.drop mid,vals:=n.vals.drop mid },n.keys.getD mid []):=(by unfold halvesN;rw[if_pos hc]);rw[hH] at kk;have h:=oF h;refine oA h 4 rfl x.2.1 rfl<|RdK.take3 z mid rfl oJ fun I ae=>oA h 4 rfl x.2.2.1 rfl<|RdK.take3 R mid rfl oJ fun U af=>oD h 1 rfl (ndV (x.1,I,x.2.2.1,x.2.2.2)) fun aE h f=>qaj (h.cell 4 rfl rfl)<|oD h 1 rfl (ndV (x.1,I,U,x.2.2.2)) fun aF h f=>?_;have h:=oF h;refine oA h 4 rfl x.2.1 rfl<|RdK.from z mid rfl oJ fun J ag=>oA h 4 rfl x.2.2.1 rfl<|RdK.from R mid rfl oJ fun V ah=>oD h 0 rfl (ndV (x.1,J,x.2.2.1,x.2.2.2)) fun aG h f=>qaj (h.cell 4 rfl rfl)<|oD h 0 rfl (ndV (x.1,J,V,x.2.2.2)) fun aH h f=>?_;have h:=oF h;refine oC h 1 rfl (x.1,I,U,x.2.2.2) rfl<|oC h 0 rfl (x.1,J,V,x.2.2.2) rfl<|oA h 4 rfl x.2.1 rfl ?_;have C:mid<pk.length:=oJ;refine RdK.get' (z.frame0 h.fr) mid rfl C fun aI E hh=>oD h 3 rfl (ndV (x.1,I,U,x.2.2.2)) fun aJ h f=>qap (hh _ (z.frame0 h.fr)) (h.cell 4 rfl rfl) (h.cells 0 rfl rfl)<|oD h 2 rfl (ndV (x.1,J,V,x.2.2.2)) fun ay h f=>qan (hh _ (z.frame0 h.fr)) (h.cell 4 rfl rfl)<|oC h 3 rfl (x.1,I,U,x.2.2.2) rfl<|oC h 2 rfl (x.1,J,V,x.2.2.2) rfl<|kk _ _ _ ay ⟨h0,⟨fun a E=>y.1 a (yU E),fun a E=>y.2.1 a (yU E),y.2.2⟩,⟨pk.take mid,ae.frame0 h.fr,by rw[qcY,u]⟩,⟨pv.take mid,af.frame0 h.fr,by rw[qcY,A]⟩,G.frame0 h.fr⟩
   ⟨h0,⟨fun a E=>y.1 a (yT E),fun a E=>y.2.1 a (yT E),y.2.2⟩,⟨pk.drop mid,ag.frame0 h.fr,by rw[qch,u]⟩,⟨pv.drop mid,ah.frame0 h.fr,by rw[qch,A]⟩,G.frame0 h.fr⟩ ?_ h.fr
  rw[<- u,qdU C];exact (z.2 _ (zW C)).frame0 h.fr;rw[h0] at hc;have aj:¬n.leaf=true:=(by rw[hc];decide);unfold MidOk at hm;rw[if_neg aj] at hm;have hH:halvesN n mid=({ n with kids:=n.kids.take mid,keys:=n.keys.take (mid-1) },{ n with kids:=n.kids.drop mid,keys:=n.keys.drop mid },n.keys.getD (mid-1) []):=(by unfold halvesN;rw[if_neg aj]);rw[hH] at kk;have em:wrap .i64 ((mid:Int)-1)=((mid-1:Nat):Int):=(by rw[wi' _ oJ];omega);have h:=oF h;refine oA h 4 rfl x.2.2.2 rfl<|Rds.part3 G mid rfl oJ fun O ak=>oA h 4 rfl x.2.1 rfl<|RdK.take3 z (mid-1) em oJ fun aa al=>oD h 1 rfl (ndV (x.1,x.2.1,x.2.2.1,O)) fun aK h f=>qaj (h.cell 4 rfl rfl)<|oD h 1 rfl (ndV (x.1,aa,x.2.2.1,O)) fun aL h f=>?_;have h:=oF h;refine oA h 4 rfl x.2.2.2 rfl<|Rds.from1 G mid rfl oJ fun Q am=>oA h 4 rfl x.2.1 rfl<|RdK.from z mid rfl oJ fun ab an=>oD h 0 rfl (ndV (x.1,x.2.1,x.2.2.1,Q)) fun aM h f=>qaj (h.cell 4 rfl rfl)<|oD h 0 rfl (ndV (x.1,ab,x.2.2.1,Q)) fun aN h f=>?_;have h:=oF h;refine oC h 1 rfl (x.1,aa,x.2.2.1,O) rfl<|oC h 0 rfl (x.1,ab,x.2.2.1,Q) rfl<|oA h 4 rfl x.2.1 rfl ?_;have C:mid-1<pk.length:=oJ;refine RdK.get' (z.frame0 h.fr) (mid-1) em C fun aO E hh=>oD h 3 rfl (ndV (x.1,aa,x.2.2.1,O)) fun aP h f=>qap (hh _ (z.frame0 h.fr)) (h.cell 4 rfl rfl) (h.cells 0 rfl rfl)<|oD h 2 rfl (ndV (x.1,ab,x.2.2.1,Q)) fun az h f=>qan (hh _ (z.frame0 h.fr)) (h.cell 4 rfl rfl)<|oC h 3 rfl (x.1,aa,x.2.2.1,O) rfl<|oC h 2 rfl (x.1,ab,x.2.2.1,Q) rfl<|kk _ _ _ az ⟨h0,⟨fun a E=>y.1 a (yU E),y.2.1,fun a E=>y.2.2 a (yU E)⟩,⟨pk.take (mid-1),al.frame0 h.fr,by rw[qcY,u]⟩,⟨pv,R.frame0 h.fr,A⟩,ak.frame0 h.fr⟩
   ⟨h0,⟨fun a E=>y.1 a (yT E),y.2.1,fun a E=>y.2.2 a (yT E)⟩,⟨pk.drop mid,an.frame0 h.fr,by rw[qch,u]⟩,⟨pv,R.frame0 h.fr,A⟩,am.frame0 h.fr⟩ ?_ h.fr
  rw[<- u,qdU C];exact (z.2 _ (zW C)).frame0 h.fr
end
end
section
structure Sg (S0:List Nat) (w0 wa:World) (F T:List Nat):Prop where
 tot:Fr S0 w0 wa
 new:∀ b∈F,b∈S0\/w0.heap.size<=b
 own:∀ b∈T,b∈S0\/w0.heap.size<=b
abbrev bks (L:List (Nat×Obj)):List Nat:=L.map (·.1)
section
variable {dbk pb j:Nat} {FD S0 Y Y0 F0 F F' T:List Nat} {D:DiskM} {w0 wa w w':World} {M M':PgM} {L:List (Nat×Obj)}
def Sg.start(F:List Nat)(w:World):Sg F w w F []:=⟨.refl _ _,fun b u=>.inl u,fun _ h=>nomatch h⟩
def Sg.fr(g:Sg S0 w0 wa F T)(h:Own T wa w L):Fr S0 w0 w:=g.tot.trans' h.fr g.own
def Sg.bks(g:Sg S0 w0 wa F T)(h:Own T wa w L):∀b∈bks L,b∈S0\/w0.heap.size<=b:=fun b y=>by obtain⟨q,z,rfl⟩:=mem_map.1 y;rcases h.own q z with u|u;exact g.own _ u;exact .inr (zL g.tot.size u)
def qjr(h:Own T wa w L):∀b∈bks L,b<w.heap.size:=fun b u=>by obtain⟨q,y,rfl⟩:=mem_map.1 u;exact qac (h.blk q y)
def TW.now(y:TW dbk pb FD D j wa (T++Y) F M)(h:Own T wa w L):TW dbk pb FD D j w (bks L++Y) F M:=
 y.frameY (h.fr.mono fun b u _=>by simp[u]) (fun b u=>(zD.1 u).elim (qjr h b) fun u=>yC (y.ylt b (by simp[u])) h.fr.size) fun b u=>(zD.1 u).elim (fun u=>by obtain⟨q,z,rfl⟩:=mem_map.1 u;exact (h.own q z).imp (fun h=>zH _ h) id) fun u=>.inl (zI _ u)
def TW.now0(u:TW dbk pb FD D j wa Y F M)(h:Own [] wa w L):TW dbk pb FD D j w (bks L++Y) F M:=TW.now (T:=[]) u h
def qaV(h:Own T wa w L)(f:Fr S w w')(y:∀b∈bks L,b∉S):Own (bks L) w' w' L:=
 ⟨fun q u=>by rw[f.block q.1 (qac (h.blk q u)) (y _ (zY u))];exact h.blk q u,h.nodup,.refl _ _,fun q u=>.inl (zY u)⟩
def TW.own(u:TW dbk pb FD D j w (bks L++Y) F M)(h:Own T wa w L)(f:Fr F w w'):Own (bks L) w' w' L:=qaV h f fun b y=>u.yf b (by simp[y])
def Sg.next(g:Sg S0 w0 wa F T)(h:Own T wa w L)(f:Fr F w w')(n:∀b∈F',b∈F\/w.heap.size<=b):Sg S0 w0 w' F' (Go.Proofs.YtgjidjnaigkdfaaGreatDoor.bks L):=
 ⟨(g.fr h).trans' f g.new,fun b u=>(n b u).elim (g.new b) fun y=>.inr (zL (g.fr h).size y),g.bks h⟩
def Sg.next0(g:Sg S0 w0 wa F T)(h:Own T wa w L)(f:Fr [] w w'):Sg S0 w0 w' F (Go.Proofs.YtgjidjnaigkdfaaGreatDoor.bks L):=
 ⟨(g.fr h).trans' f fun _ h=>(nomatch h),g.new,g.bks h⟩
def qna(h:Own T wa w L):∀b∈Zo FD (Go.Proofs.YtgjidjnaigkdfaaGreatDoor.bks L++Y) F,b∈Zo FD (T++Y) F\/wa.heap.size<=b:=fun b u=>by rcases zD.1 u with u|u;rcases zD.1 u with u|u;exact .inl (by simp[u]);rcases zG.1 u with u|u;exact .inl (by simp[u]);rcases zD.1 u with u|u;obtain⟨q,y,rfl⟩:=mem_map.1 u;exact (h.own q y).imp (fun h=>by simp[h]) id;exact .inl (by simp[u]);exact .inl (by simp[u])
def qff:∀b∈Zo FD Y F,b∈Zo FD (S++Y) F:=fun b h=>by simp only[Zo,zD,zG] at h⊢;rcases h with (h|h|h)|h<;>simp[h]
def zoF{b:Nat}(h:b∈F):b∈Zo FD Y F:=zI _ h
def NodeR.now(u:NodeR (Zo FD (T++Y) F) wa x n)(h:Own T wa w L):NodeR (Zo FD (bks L++Y) F) w x n:=u.frame (h.fr.mono fun b y _=>by simp[y]) (qna h)
def NodeR.now0(u:NodeR (Zo FD Y F) wa x n)(h:Own [] wa w L):NodeR (Zo FD (bks L++Y) F) w x n:=NodeR.now (T:=[]) u h
def NodeR.next(h:NodeR (Zo FD Y F) w x n)(f:Fr F w w')(u:∀b∈F',b∈F\/w.heap.size<=b):NodeR (Zo FD Y F') w' x n:=h.frame (f.mono fun b y _=>zoF y) (TW.znew u)
def qaM(u:RdB (Zo FD (T++Y) F) wa s l)(h:Own T wa w L):RdB (Zo FD (bks L++Y) F) w s l:=u.frame (h.fr.mono fun b y _=>by simp[y]) (qna h)
def qbk(u:RdB (Zo FD Y F) wa s l)(h:Own [] wa w L):RdB (Zo FD (bks L++Y) F) w s l:=qaM (T:=[]) u h
def qqu(h:RdB (Zo FD Y F) w s l)(f:Fr F w w')(u:∀b∈F',b∈F\/w.heap.size<=b):RdB (Zo FD Y F') w' s l:=h.frame (f.mono fun b y _=>zoF y) (TW.znew u)
def qlN(h:RdB (Zo FD (S++Y) F) w s l):RdB (Zo FD Y F) w s l:=h.frame (.refl _ _) fun b u=>.inl (qff b u)
def TW.drop0(h:TW dbk pb FD D j w (T++Y) F M):TW dbk pb FD D j w Y F M:=h.weakY fun b u=>zI _ u
abbrev GrC:=Int×Bool×Sl×Int
def grX (g:Grown) (ks:Sl):GrC:=(g.page,g.fresh,ks,g.other)
abbrev GR:TypeId:=215
def grV (x:GrC):Array Value:=#[.u x.1,.bool x.2.1,x.2.2.1.v,.u x.2.2.2]
def qee:U32 0:=⟨oM,oM⟩
def qp6{k:Int}(h:M.Wf):U32 (makeV M k b).1.1:=by
 unfold makeV;split;exact qee;split;exact qee;split;exact qee;rename_i n r u
 have:=h.range n (by rw[u];simp)
 have:=h.n4
 exact⟨by dsimp only;omega,by dsimp only;omega⟩
def qbv(h:M.Wf)(u:U32 p):U32 (storeN k v M p n).1.1:=by unfold storeN;split;exact qee;split;exact u;split;exact qp6 h;exact qp6 h
structure GOk (g:Grown):Prop where
 page:U32 g.page
 other:U32 g.other
 key:IsB g.key
def IsB.nil:IsB []:=fun _ h=>nomatch h
def ql1:GOk zeroG:=⟨⟨oM,oM⟩,⟨oM,oM⟩,.nil⟩
def qa8{l:List Key}(h:∀a∈l,IsB a)(i:Nat):IsB (l.getD i []):=by
 rw[yQ];cases e:l[i]? with
 | none=>exact .nil
 | some a=>exact h a (yE e)
def qoD{t:Int}{fresh:Bool}{K:GrC×Int->WP}(hT:TW dbk pb FD D j w0 Y F M)(hx:NodeR (Zo FD Y F) w0 x n)(h1:n.keys.length<=100000)(h2:n.vals.length<=100000)(h3:n.kids.length<=100000)(hm:(sizeN n k v).1>(sizeN n k v).2->MidOk n ((sizeN n k v).1 / 2))(hp:U32 p)(kk:∀ks F' w',GOk (splitN k v M p n fresh).1.1->TW dbk pb FD D j w' Y F' (splitN k v M p n fresh).2->RdB (Zo FD Y F') w' ks (splitN k v M p n fresh).1.1.key->Fr F w0 w'->(∀b∈F',b∈F\/w0.heap.size<=b)->K (grX (splitN k v M p n fresh).1.1 ks,(splitN k v M p n fresh).1.2) w'): cW 146 [.agg (wkV (wkX k v pb t)),.u p,.agg (ndV x),.bool fresh] [.agg qaY,.one .i] w0 K:=by
 refine qjS ?_;unfold qfK;have h:=oE [] w0;have g:=Sg.start F w0;have hl:=hx.lens;have aB:(sizeN n k v).1<=100000:=(by unfold sizeN;split<;>assumption);refine oB h fun r1 w2 _ f h=>oB h fun r3 w4 _ f h=>oB h fun r5 w6 _ f h=>oB h fun r7 w8 _ f h=>oD h 0 rfl (grV (0,fresh,⟨none,0,0⟩,0)) fun w9 h f=>oC h 3 rfl (shX k v) rfl<|oC h 2 rfl x rfl<|qnB (k:=k) (v:=v) hl fun aF ai=>?_;have h:=h.frame0 ai;refine qaf (fun _ w'=>∃(x':NdC) (n':NodeM) (ks:Sl) (key:Key) (o:Int) (F' T:List Nat) (wa:World) (M':PgM),Sg F w0 wa F' T/\TW dbk pb FD D j wa (T++Y) F' M'/\Own T wa w' [(r7,.cells (grV (0,fresh,ks,o)) GR (0,0)),(r5,.cells (grV (0,false,⟨none,0,0⟩,0)) GR (0,0)),(r3,.cells (ndV x') ND (0,0)),(r1,.cells (wkV (wkX k v pb t)) WK (0,0))]/\
   NodeR (Zo FD (T++Y) F') wa x' n'/\RdB (Zo FD (T++Y) F') wa ks key/\n'.keys.length<=100000/\n'.vals.length<=100000/\n'.kids.length<=100000/\U32 o/\IsB key/\splitN k v M p n fresh=((⟨(storeN k v M' p n').1.1,fresh,key,o⟩,(storeN k v M' p n').1.2),(storeN k v M' p n').2)) ?_ ?_
 apply qaa<;>intro C;have C:(sizeN n k v).1>(sizeN n k v).2:=(by have:=zC C;dsimp only at this;omega);have ac:=hm C;have G:wrap .i64 (Int.tdiv ((sizeN n k v).1:Int) 2)=(((sizeN n k v).1 / 2:Nat):Int):=(by rw[Int.tdiv_eq_ediv_of_nonneg oJ,wi' _ oJ];rfl);generalize ad:(sizeN n k v).1 / 2=y at ac G;refine oC h 2 rfl x rfl ?_;dsimp only;rw[G];have z:=hT.now0 h;refine qua (hx.now0 h) ac oJ fun xl xr ks aG aj ak O Q=>?_;have I:=z.frame0 Q;have g:=g.next0 h Q;have h:=qaV h Q fun _ _ h=>nomatch h;refine oB h fun aH aI _ f h=>oB h fun aJ aK _ f h=>oD h 1 rfl (ndV xl) fun aL h f=>oD h 0 rfl (ndV xr) fun aM h f=>oC h 5 rfl (wkX k v pb t) rfl<|oC h 0 rfl xr rfl ?_;have hH:(halvesN n y).1.keys.length<=100000/\(halvesN n y).1.vals.length<=100000/\(halvesN n y).1.kids.length<=100000/\(halvesN n y).2.1.keys.length<=100000/\(halvesN n y).2.1.vals.length<=100000/\(halvesN n y).2.1.kids.length<=100000:=by unfold halvesN;split<;>simp only[yK,yB]<;>omega
 refine qbu (I.now h) (ak.now h) oJ oJ oJ fun F1 an J E R=>?_;have U:=(aj.now h).next E R
 have V:=qqu (qaM O h) E R;have g:=g.next h E R
 have h:=(I.now h).own h E;apply qaa<;>intro A;have ao:(storeN k v M 0 (halvesN n y).2.1).1.2≠0:=by rw[zT] at A;exact zR.1 A
 have e:splitN k v M p n fresh=((zeroG,(storeN k v M 0 (halvesN n y).2.1).1.2),(storeN k v M 0 (halvesN n y).2.1).2):=(by unfold splitN;rw[if_pos C,ad,if_pos ao]);rw[e] at kk;exact oD h 3 rfl (grV (0,false,⟨none,0,0⟩,0)) fun ap h f=>oC h 3 rfl (0,false,⟨none,0,0⟩,0) rfl<|kk ⟨none,0,0⟩ F1 ap ql1 (J.now h).drop0 (.nil _ _ _ _) (g.fr h) g.new;have he:¬(storeN k v M 0 (halvesN n y).2.1).1.2≠0:=fun e=>by rw[yD,yO] at A;exact e A
 refine oC h 1 rfl xl rfl<|oD h 4 rfl (ndV xl) fun aO h f=>oG h 2 rfl (grV (0,fresh,⟨none,0,0⟩,(storeN k v M 0 (halvesN n y).2.1).1.1)) rfl rfl (zO rfl) fun aP h f=>oG h 2 rfl (grV (0,fresh,ks,(storeN k v M 0 (halvesN n y).2.1).1.1)) rfl rfl (zO rfl) fun aQ h f=>⟨xl,(halvesN n y).1,ks,(halvesN n y).2.2,_,F1,_,an,_,g,J,h.sub (.cons _ (.cons _ (.refl _))),U,V,hH.1,hH.2.1,hH.2.2.1,qbv hT.wf ⟨oM,oM⟩,?_,?_⟩;unfold halvesN;split;exact qa8 hx.2.1.1 _;exact qa8 hx.2.1.1 _;unfold splitN;rw[if_pos C,ad,if_neg he];have C:¬(sizeN n k v).1>(sizeN n k v).2:=(by have:=zB C;dsimp only at this;omega);refine⟨x,n,⟨none,0,0⟩,[],0,F,[],w0,M,g,hT,h,hx,.nil _ _ _ _,h1,h2,h3,⟨oM,oM⟩,.nil,?_⟩;unfold splitN;rw[if_neg C];rintro aR aS ⟨x',n',ks,key,o,F1,T,wa,M',g,z,h,aq,ar,l1,l2,l3,uo,bk,e⟩;rw[e] at kk;refine oC h 3 rfl (wkX k v pb t) rfl<|oC h 2 rfl x' rfl<|qbu (z.now h) (aq.now h) oJ oJ oJ fun F2 aW ae aa af=>?_;have O:=qqu (qaM ar h) aa af;have g:=g.next h aa af
 have h:=(z.now h).own h aa;exact oD h 0 rfl (grV ((storeN k v M' p n').1.1,fresh,ks,o)) fun aX h f=>oC h 0 rfl ((storeN k v M' p n').1.1,fresh,ks,o) rfl<|oD h 1 rfl (grV ((storeN k v M' p n').1.1,fresh,ks,o)) fun au h f=>oC h 1 rfl ((storeN k v M' p n').1.1,fresh,ks,o) rfl<|kk ks F2 au ⟨qbv z.wf hp,uo,bk⟩ (ae.now h).drop0 (qlN (qaM O h)) (g.fr h) g.new
end
end
section
section
variable {Z:List Nat} {w w':World} {s:Sl} {l:List Key} {B:List Nat}
def qn4{α β:Type}(f:α->β)(l:List α)(i:Nat)(x:α):(insAt l i x).map f=insAt (l.map f) i (f x):=by unfold insAt;rw[xJ,xJ,xL,xM];rfl
def qnU{α β:Type}(f:α->β)(l:List α)(i:Nat):(delAt l i).map f=delAt (l.map f) i:=by unfold delAt;rw[xJ,xL,xM]
def qgk{α:Type}{l:List α}{y:α}(h:y∈delAt l i):y∈l:=by unfold delAt at h;exact (zD.1 h).elim yU yT
abbrev NewZ (Z:List Nat) (w:World) (Z':List Nat):Prop:=∀b∈Z',b∈Z\/w.heap.size<=b
def qgU{pk pk':Kps}{Z':List Nat}{z:Sl}{B':List Nat}{l':List Key}(A:∀p∈pk,RdB Z w p.1 p.2)(u:Buf encSl 1 w' z (slsP pk') B')(e:keyP pk'=l')(f:Fr B w w')(y:∀b∈B,b∈Z)(C:NewZ Z w Z')(E:∀p∈pk',p∈pk\/RdB Z w p.1 p.2):BufK Z' w' z l' B':=
 ⟨pk',u,e,fun p h=>((E p h).elim (A p) id).frame (f.mono fun b u _=>y b u) C⟩
def BufK.ins{ii:Int}(h:BufK Z w s l B)(y:∀b∈B,b∈Z)(hi:i<=l.length)(E:ii=i)(C:l.length<=100000)(G:w.heap[vb]?=some (.cells #[elSl ks] T' (0,0)))(z:vb∉B)(I:RdB Z w ks key)(J:∀u B' w',(∀Z',NewZ Z w Z'->BufK Z' w' u (insAt l i key) B')->Fr B w w'->(∀b∈B',b∈B\/w.heap.size<=b)->K u w'): cW 145 [s.v,.i ii,.slice (pW vb) 1 1] [.one .slice] w K:=by obtain⟨pk,O,rfl,A⟩:=h;rw[zK] at hi C;refine qsl O (by rw[zK];exact hi) E (by rw[zK];exact C) G z fun u B' w' Q f n=>J u B' w' (fun Z' R=>qgU (pk':=insAt pk i (ks,key)) A (by rw[show slsP (insAt pk i (ks,key))=insAt (slsP pk) i ks from qn4 _ _ _ _];exact Q) (qn4 _ _ _ _) f y R fun p A=>?_) f n;rcases qgl A with rfl|h;exact .inr I;exact .inl h
def BufK.del{ii jj:Int}(h:BufK Z w s l B)(y:∀b∈B,b∈Z)(hi:i<l.length)(C:ii=i)(E:jj=((i+1:Nat):Int))(A:l.length<=100000)(G:∀u w',(∀Z',NewZ Z w Z'->BufK Z' w' u (delAt l i) B)->Fr B w w'->K u w'): cW 151 [s.v,.i ii,.i jj] [.one .slice] w K:=by obtain⟨pk,I,rfl,z⟩:=h;rw[zK] at hi A;exact qsi I (by rw[zK];exact hi) C E (by rw[zK];exact A) fun u w' J f=>G u w' (fun Z' O=>qgU (pk':=delAt pk i) z (by rw[show slsP (delAt pk i)=delAt (slsP pk) i from qnU _ _ _];exact J) (qnU _ _ _) f y O fun p z=>.inl (qgk z)) f
def BufK.set{i:Nat}{ii:Int}{ks:Sl}{key:Key}{K:WP}(h:BufK Z w s l B)(u:∀b∈B,b∈Z)(hi:i<l.length)(A:ii=i)(C:RdB Z w ks key)(E:∀w',(∀Z',NewZ Z w Z'->BufK Z' w' s (l.set i key) B)->Fr B w w'->K w'):idx s ii 1 fun a=>st a [ks.v] w K:=by obtain⟨pk,z,rfl,y⟩:=h;rw[zK] at hi;refine Buf.idxAt z A (by rw[zK];exact hi) fun b G=>?_;subst G;refine Buf.stAt (e:=elSl) (x:=ks) (fun _=>rfl) z (by rw[zK];exact hi) rfl rfl fun w' I f=>E w' (fun Z' J=>qgU (pk':=pk.set i (ks,key)) y (by rw[show slsP (pk.set i (ks,key))=(slsP pk).set i ks from map_set];exact I) (map_set) f u J fun p y=>?_) f;rcases mem_or_eq_of_mem_set y with h|rfl;exact .inl h;exact .inr C
def BufK.app1(h:BufK Z w s l B)(y:∀b∈B,b∈Z)(A:l.length<=100000)(C:w.heap[vb]?=some (.cells #[elSl ks] T' (0,0)))(E:RdB Z w ks key)(G:∀u B' w',(∀Z',NewZ Z w Z'->BufK Z' w' u (l++[key]) B')->Fr B w w'->(∀b∈B',b∈B\/w.heap.size<=b)->K u w'): Pt.run [Ty1.one Cell.slice] ((Builtin.append_ #[161,161] 161 #[s.v,.slice (pW vb) 1 1]).run prog w) K:=by obtain⟨pk,I,rfl,z⟩:=h;rw[zK] at A;refine appK I (by rw[zK];exact A) C fun u B' w' J f n=>G u B' w' (fun Z' O=>qgU (pk':=pk++[(ks,key)]) z (by rw[show slsP (pk++[(ks,key)])=slsP pk++[ks] by simp];exact J) oL f y O fun p z=>?_) f n;rcases zD.1 z with h|h;exact .inl h;rw[zE.1 h];exact .inr E
def BufK.appAll(h:BufK Z w s l B)(z:∀b∈B,b∈Z)(J:l.length+ps.length<=100000)(u:Rds encSl 1 S w src (slsP ps))(A:∀p∈ps,RdB Z w p.1 p.2)(O:∀y B' w',(∀Z',NewZ Z w Z'->BufK Z' w' y (l++keyP ps) B')->Fr B w w'->(∀b∈B',b∈B\/w.heap.size<=b)->K y w'): Pt.run [Ty1.one Cell.slice] ((Builtin.append_ #[161,161] 161 #[s.v,src.v]).run prog w) K:=by obtain⟨pk,Q,rfl,C⟩:=h;rw[zK] at J;obtain⟨R,E,U,G,I⟩:=qmp;refine Buf.appSrc (ys:=slsP ps) (e:=27) Q qcV oK E U G rfl (qfc (e':=27) u qcV qt2) u.1 (by rw[I,zK,u.1,zK];omega) (by rw[zK,u.1,zK];omega) fun y B' w' V f n _=>O y B' w' (fun Z' hZ=>qgU (pk':=pk++ps) C (by rw[show slsP (pk++ps)=slsP pk++slsP ps by simp];exact V) oL f z hZ fun p C=>?_) f n;rcases zD.1 C with h|h;exact .inl h;exact .inr (A p h)
def qwF{l ys:List Int}(h:Buf encU 1 w s l B)(R:l.length+ys.length<=100000)(y:Rds encU 1 S w src ys)(G:∀z B' w',Buf encU 1 w' z (l++ys) B'->Fr B w w'->(∀b∈B',b∈B\/w.heap.size<=b)->K z w'): Pt.run [Ty1.one Cell.slice] ((Builtin.append_ #[31,31] 31 #[s.v,src.v]).run prog w) K:=by obtain⟨I,A,J,C,E⟩:=qdu;exact Buf.appSrc (ys:=ys) (e:=32) h qaE oK A J C rfl (qfc (e':=32) y qaE (fun x u O=>by rw[zE.1 O];rfl)) y.1 (by rw[E,y.1];omega) (by rw[y.1];omega) fun z B' w' Q f n _=>G z B' w' Q f n
def qyl{l:List Int}{ii x:Int}{K:WP}(h:Buf encU 1 w s l B)(hi:i<l.length)(y:ii=i)(z:∀w',Buf encU 1 w' s (l.set i x) B->Fr B w w'->K w'):idx s ii 1 fun a=>st a [.u x] w K:=by refine Buf.idxAt h y hi fun b A=>?_;subst A;exact Buf.stAt (e:=elU) (x:=x) (fun _=>rfl) h hi rfl rfl z
end
section
variable {Z:List Nat} {w:World} {x:NdC} {n:NodeM} {B:List Nat}
def NodeB.keysL(h:NodeB Z w x n B):∃Bk,BufK Z w x.2.1 n.keys Bk/\(∀b∈Bk,b∈B)/\∀A z Bk' w',Fr Bk w w'->(∀b∈Bk,b∈Z)->(∀b∈Bk',b∈Bk\/w.heap.size<=b)->(∀a∈z,IsB a)-> ∃B',(∀b∈B',b∈B\/w.heap.size<=b)/\∀Z',NewZ Z w Z'->BufK Z' w' A z Bk'->NodeB Z' w' (x.1,A,x.2.2) { n with keys:=z } B':=by
 obtain⟨h0,C,Bk,K,O,rfl,E,hk,Q,R⟩:=h;obtain⟨n1,n2,G⟩:=yL.1 E;refine⟨Bk,hk,fun b u=>by simp[u],fun A z Bk' w' f hz U hl=>⟨Bk'++(K++O),fun b u=>?_,fun Z' hZ y=>⟨h0,⟨hl,C.2⟩,Bk',K,O,rfl,?_,y,Q.frame f (fun b u I=>G b I b (by simp[u]) rfl) (fun b u=>.inl (hz b u)) hZ,R.frame f fun b u I=>G b I b (by simp[u]) rfl⟩⟩⟩;rcases zD.1 u with u|u;exact (U b u).imp (fun h=>by simp[h]) id;exact .inl (zI _ u);have J:Bk'.Nodup:=(by obtain⟨_,u,_⟩:=y;exact qcQ u);refine yL.2 ⟨J,n2,fun a ha b u e=>?_⟩;subst e;rcases U a ha with V|V;exact G a V a u rfl;rcases zD.1 u with u|u
 have:=Q.lt a u;omega
 have:=R.lt a u;omega
def NodeB.valsL(h:NodeB Z w x n B):∃z,BufK Z w x.2.2.1 n.vals z/\(∀b∈z,b∈B)/\∀J I y w',Fr z w w'->(∀b∈z,b∈Z)->(∀b∈y,b∈z\/w.heap.size<=b)->(∀a∈I,IsB a)-> ∃B',(∀b∈B',b∈B\/w.heap.size<=b)/\∀Z',NewZ Z w Z'->BufK Z' w' J I y->NodeB Z' w' (x.1,x.2.1,J,x.2.2.2) { n with vals:=I } B':=by
 obtain⟨h0,A,Bk,z,V,rfl,K,hk,hv,hi⟩:=h;obtain⟨n1,n2,O⟩:=yL.1 K;obtain⟨m1,m2,m3⟩:=yL.1 n2;refine⟨z,hv,fun b u=>by simp[u],fun J I y w' f hz Q hl=>⟨Bk++(y++V),fun b u=>?_,fun Z' hZ C=>⟨h0,⟨A.1,hl,A.2.2⟩,Bk,y,V,rfl,?_,hk.frame f (fun b u R=>O b u b (by simp[R]) rfl) (fun b u=>.inl (hz b u)) hZ,C,hi.frame f fun b u R=>m3 b R b u rfl⟩⟩⟩;simp only[zD] at u⊢;rcases u with u|u|u;exact .inl (.inl u);exact (Q b u).imp (fun h=>.inr (.inl h)) id;exact .inl (.inr (.inr u));have U:y.Nodup:=(by obtain⟨_,u,_⟩:=C;exact qcQ u);refine yL.2 ⟨n1,yL.2 ⟨U,m2,fun a E b u e=>?_⟩,fun a E b u e=>?_⟩;subst e;rcases Q a E with G|G;exact m3 a G a u rfl
 have:=hi.lt a u;omega
 subst e;rcases zD.1 u with u|u;rcases Q a u with G|G;exact O a E a (by simp[G]) rfl
 have:=hk.lt a E;omega
 exact O a E a (by simp[u]) rfl
def NodeB.kidsL(h:NodeB Z w x n B):∃z,Buf encU 1 w x.2.2.2 n.kids z/\(∀b∈z,b∈B)/\∀J I y w',Fr z w w'->(∀b∈z,b∈Z)->(∀b∈y,b∈z\/w.heap.size<=b)->(∀a∈I,U32 a)-> ∃B',(∀b∈B',b∈B\/w.heap.size<=b)/\∀Z',NewZ Z w Z'->Buf encU 1 w' J I y->NodeB Z' w' (x.1,x.2.1,x.2.2.1,J) { n with kids:=I } B':=by
 obtain⟨h0,C,Bk,U,z,rfl,K,V,hv,hi⟩:=h;obtain⟨n1,n2,O⟩:=yL.1 K;obtain⟨m1,m2,m3⟩:=yL.1 n2;refine⟨z,hi,fun b u=>by simp[u],fun J I y w' f hz Q hl=>⟨Bk++(U++y),fun b u=>?_,fun Z' hZ E=>⟨h0,⟨C.1,C.2.1,hl⟩,Bk,U,y,rfl,?_,V.frame f (fun b u R=>O b u b (by simp[R]) rfl) (fun b u=>.inl (hz b u)) hZ,hv.frame f (fun b u R=>m3 b u b R rfl) (fun b u=>.inl (hz b u)) hZ,E⟩⟩⟩;simp only[zD] at u⊢;rcases u with u|u|u;exact .inl (.inl u);exact .inl (.inr (.inl u));exact (Q b u).imp (fun h=>.inr (.inr h)) id;refine yL.2 ⟨n1,yL.2 ⟨m1,qcQ E,fun a A b u e=>?_⟩,fun a A b u e=>?_⟩;subst e;rcases Q a u with G|G;exact m3 a A a G rfl
 have:=hv.lt a A;omega
 subst e;rcases zD.1 u with u|u;exact O a A a (by simp[u]) rfl;rcases Q a u with G|G;exact O a A a (by simp[G]) rfl
 have:=V.lt a A;omega
end
structure Ed (dbk pb:Nat) (FD:List Nat) (D:DiskM) (j:Nat) (S0 N0:List Nat) (w0 wa:World) (T Y F:List Nat) (M:PgM) (x:NdC) (n:NodeM) (B:List Nat):Prop where
 sg:Sg S0 w0 wa F T
 tw:TW dbk pb FD D j wa (T++(B++Y)) F M
 node:NodeB (Zo FD (T++(B++Y)) F) wa x n B
 sep:∀ b∈T,b∉B
 bnew:∀ b∈B,b∈N0\/w0.heap.size<=b
 nsub:∀ b∈N0,b∈S0
 ysep:∀ b∈B,b∉Y
section
variable {dbk pb j:Nat} {FD S0 N0 Y F F' T B B':List Nat} {D:DiskM} {w0 wa w w':World} {M M':PgM} {L:List (Nat×Obj)} {x x':NdC} {n n':NodeM}
def Ed.now(e:Ed dbk pb FD D j S0 N0 w0 wa T Y F M x n B)(h:Own T wa w L):Ed dbk pb FD D j S0 N0 w0 w (bks L) Y F M x n B where
 sg:=⟨e.sg.fr h,e.sg.new,e.sg.bks h⟩
 tw:=e.tw.now h
 node:=e.node.frame h.fr (fun b u y=>e.sep b y u) (fun b u=>.inl (by simp[u])) (qna h)
 sep:=fun b u y=>by
  obtain⟨q,A,rfl⟩:=mem_map.1 u;rcases h.own q A with z|z;exact e.sep _ z y
  have:=e.node.lt _ y;omega
 bnew:=e.bnew
 nsub:=e.nsub
 ysep:=e.ysep
def Ed.rd(e:Ed dbk pb FD D j S0 N0 w0 wa T Y F M x n B):∀b∈B,b∈Zo FD (T++(B++Y)) F:=fun b h=>by simp[h]
def Ed.edit{Bk:List Nat}(e:Ed dbk pb FD D j S0 N0 w0 w (bks L) Y F M x n B)(h:Own T wa w L)(A:∀b∈Bk,b∈B)(f:Fr Bk w w')(E:NodeB (Zo FD (bks L++(B'++Y)) F) w' x' n' B')(z:∀b∈B',b∈B\/w.heap.size<=b):Ed dbk pb FD D j S0 N0 w0 w' (bks L) Y F M x' n' B'/\Own (bks L) w' w' L:=by
 refine⟨⟨⟨e.sg.tot.trans' f fun b u=>(e.bnew b (A b u)).imp (e.nsub b) id,e.sg.new,e.sg.own⟩,e.tw.frameY (f.mono fun b u _=>by simp[A b u]) (fun b u=>?_) (fun b u=>?_),E,fun b u C=>?_,fun b u=>(z b u).elim (e.bnew b) fun y=>.inr (zL e.sg.tot.size y),e.nsub,fun b u G=>?_⟩,qaV h f fun b u C=>e.sep b u (A b C)⟩;rcases zD.1 u with u|u;exact yC (e.tw.ylt b (by simp[u])) f.size;rcases zD.1 u with u|u;exact E.lt b u;exact yC (e.tw.ylt b (by simp[u])) f.size;rcases zD.1 u with u|u;exact .inl (by simp[u]);rcases zD.1 u with u|u;exact (z b u).imp (fun h=>by simp[h]) id;exact .inl (by simp[u]);rcases z b C with y|y;exact e.sep b u y
 have:=e.tw.ylt b (by simp[u]);omega
 rcases z b u with y|y;exact e.ysep b y G
 have:=e.tw.ylt b (by simp[G]);omega
def Ed.newZ(e:Ed dbk pb FD D j S0 N0 w0 w T Y F M x n B)(y:∀b∈B',b∈B\/w.heap.size<=b):NewZ (Zo FD (T++(B++Y)) F) w (Zo FD (T++(B'++Y)) F):=fun b u=>by simp only[Zo,zD,zG] at u⊢;rcases u with (u|u|u|u|u)|u;simp[u];simp[u];simp[u];exact (y b u).imp (fun h=>by simp[h]) id;simp[u];simp[u]
def Ed.next(e:Ed dbk pb FD D j S0 N0 w0 w (bks L) Y F M x n B)(h:Own T wa w L)(z:TW dbk pb FD D j w' (bks L++(B++Y)) F' M')(f:Fr F w w')(y:∀b∈F',b∈F\/w.heap.size<=b):Ed dbk pb FD D j S0 N0 w0 w' (bks L) Y F' M' x n B/\Own (bks L) w' w' L:=by have A:∀b∈bks L,b∉F:=fun b u=>e.tw.yf b (by simp[u]);refine⟨⟨⟨e.sg.tot.trans' f e.sg.new,fun b u=>(y b u).elim (e.sg.new b) fun C=>.inr (zL e.sg.tot.size C),e.sg.own⟩,z,e.node.frame f (fun b u=>e.tw.yf b (by simp[u])) (fun b u=>.inl (zoF u)) (TW.znew y),e.sep,e.bnew,e.nsub,e.ysep⟩,qaV h f A⟩
def Ed.next0(e:Ed dbk pb FD D j S0 N0 w0 w (bks L) Y F M x n B)(h:Own T wa w L)(f:Fr [] w w'):Ed dbk pb FD D j S0 N0 w0 w' (bks L) Y F M x n B/\Own (bks L) w' w' L:=
 e.next h (e.tw.frame0 f) (f.mono fun _ h=>nomatch h) fun b u=>.inl u
def Ed.nodeR(e:Ed dbk pb FD D j S0 N0 w0 w T Y F M x n B):NodeR (Zo FD (T++Y) F) w x n:=
 e.node.rd (fun b h u=>by
  simp only[Zo,zD,zG] at u;have y:=e.tw.sep b (by simp[h]);rcases u with (u|u|u|u)|u;exact y.1 u;exact y.2 u;exact e.sep b u h;exact e.ysep b h u;exact e.tw.yf b (by simp[h]) u) fun b h=>.inl (by
  simp only[Zo,zD,zG] at h⊢;rcases h with (h|h|h|h)|h<;>simp[h])
def Ed.tw'(e:Ed dbk pb FD D j S0 N0 w0 w T Y F M x n B):TW dbk pb FD D j w (T++Y) F M:=e.tw.weakY fun b u=>(zD.1 u).elim (fun h=>by simp[h]) fun h=>by simp[h]
end
end
section
section
variable {dbk pb j:Nat} {FD S0 N0 Y F F' F0 T T1 B B' Bk Bk':List Nat} {D:DiskM} {w0 wa w w':World} {M M':PgM} {L:List (Nat×Obj)} {x x':NdC} {n n':NodeM} {i q:Nat} {ii jj:Int} {ks:Sl} {key:Key} {vb:Nat} {T':TypeId}
structure Keep (FD Y F B B':List Nat) (T:List Nat) (w w':World):Prop where
 rdb:∀ s l,RdB (Zo FD (T++(B++Y)) F) w s l->RdB (Zo FD (T++(B'++Y)) F) w' s l
 node:∀ x n,NodeR (Zo FD (T++(B++Y)) F) w x n->NodeR (Zo FD (T++(B'++Y)) F) w' x n
def Ed.keep(e:Ed dbk pb FD D j S0 N0 w0 w T Y F M x n B)(y:∀b∈Bk,b∈B)(f:Fr Bk w w')(z:∀b∈B',b∈B\/w.heap.size<=b):Keep FD Y F B B' T w w':=⟨fun s l h=>h.frame (f.mono fun b u _=>by simp[y b u]) (e.newZ z),fun x n h=>h.frame (f.mono fun b u _=>by simp[y b u]) (e.newZ z)⟩
def Ed.rdb(e:Ed dbk pb FD D j F0 N0 w0 w T Y F M x n B)(y:RdB (Zo FD Y F0) w0 s l):RdB (Zo FD (T++(B++Y)) F) w s l:=
 y.frame (e.sg.tot.mono fun b u _=>zoF u) fun b u=>by rcases zD.1 u with u|u;rcases zD.1 u with u|u;exact .inl (by simp[u]);rcases zG.1 u with u|u;exact .inl (by simp[u]);rcases zD.1 u with u|u;exact (e.sg.own b u).imp (fun h=>zoF h) id;rcases zD.1 u with u|u;exact (e.bnew b u).imp (fun h=>zoF (e.nsub b h)) id;exact .inl (by simp[u]);exact (e.sg.new b u).imp (fun h=>zoF h) id
def Ed.sub(e:Ed dbk pb FD D j S0 N0 w0 w T Y F M x n B)(y:∀b∈T1,b∈T):Ed dbk pb FD D j S0 N0 w0 w T1 Y F M x n B where
 sg:=⟨e.sg.tot,e.sg.new,fun b u=>e.sg.own b (y b u)⟩
 tw:=e.tw.weakY fun b u=>(zD.1 u).elim (fun h=>zH _ (y b h)) fun h=>zI _ h
 node:=e.node.weak fun b u=>.inl (by simp only[Zo,zD,zG] at u⊢;rcases u with (u|u|u|u)|u;simp[u];simp[u];simp[y b u];simp[u];simp[u])
 sep:=fun b u=>e.sep b (y b u)
 bnew:=e.bnew
 nsub:=e.nsub
 ysep:=e.ysep
def qne{L:List (Nat×Obj)}{q vb:Nat}{o:Obj}(h:L[q]?=some (vb,o)):vb∈bks L:=mem_map.2 ⟨_,yE h,rfl⟩
def Ed.insK(e:Ed dbk pb FD D j S0 N0 w0 w (bks L) Y F M x n B)(h:Own T wa w L)(hi:i<=n.keys.length)(G:ii=i)(I:n.keys.length<=100000)(q:Nat)(E:L[q]?=some (vb,.cells #[elSl ks] T' (0,0)))(J:RdB (Zo FD (bks L++(B++Y)) F) w ks key)(O:IsB key)(Q:∀y B' w',Ed dbk pb FD D j S0 N0 w0 w' (bks L) Y F M (x.1,y,x.2.2) { n with keys:=insAt n.keys i key } B'->Own (bks L) w' w' L->Keep FD Y F B B' (bks L) w w'->K y w'): cW 145 [x.2.1.v,.i ii,.slice (pW vb) 1 1] [.one .slice] w K:=by obtain⟨Bk,z,u,C⟩:=e.node.keysL;refine z.ins (fun b z=>e.rd b (u b z)) hi G I (h.at E) (fun R=>e.sep vb (qne E) (u vb R)) J fun y Bk' w' U f V=>?_;obtain⟨B',A,hN⟩:=C y _ Bk' w' f (fun b z=>e.rd b (u b z)) V fun a ha=>(qgl ha).elim (fun h=>by rw[h];exact O) (e.node.2.1.1 a);obtain⟨e',h'⟩:=e.edit h u f (hN _ (e.newZ A) (U _ (e.newZ A))) A;exact Q y B' w' e' h' (e.keep u f A)
def Ed.insV(e:Ed dbk pb FD D j S0 N0 w0 w (bks L) Y F M x n B)(h:Own T wa w L)(hi:i<=n.vals.length)(G:ii=i)(I:n.vals.length<=100000)(q:Nat)(E:L[q]?=some (vb,.cells #[elSl ks] T' (0,0)))(J:RdB (Zo FD (bks L++(B++Y)) F) w ks key)(O:IsB key)(Q:∀y B' w',Ed dbk pb FD D j S0 N0 w0 w' (bks L) Y F M (x.1,x.2.1,y,x.2.2.2) { n with vals:=insAt n.vals i key } B'->Own (bks L) w' w' L->Keep FD Y F B B' (bks L) w w'->K y w'): cW 145 [x.2.2.1.v,.i ii,.slice (pW vb) 1 1] [.one .slice] w K:=by obtain⟨Bk,z,u,C⟩:=e.node.valsL;refine z.ins (fun b z=>e.rd b (u b z)) hi G I (h.at E) (fun R=>e.sep vb (qne E) (u vb R)) J fun y Bk' w' U f V=>?_;obtain⟨B',A,hN⟩:=C y _ Bk' w' f (fun b z=>e.rd b (u b z)) V fun a ha=>(qgl ha).elim (fun h=>by rw[h];exact O) (e.node.2.1.2.1 a);obtain⟨e',h'⟩:=e.edit h u f (hN _ (e.newZ A) (U _ (e.newZ A))) A;exact Q y B' w' e' h' (e.keep u f A)
def Ed.insI{A:Int}(e:Ed dbk pb FD D j S0 N0 w0 w (bks L) Y F M x n B)(h:Own T wa w L)(hi:i<=n.kids.length)(J:ii=i)(O:n.kids.length<=100000)(q:Nat)(I:L[q]?=some (vb,.cells #[.u A] T' (0,0)))(Q:U32 A)(R:∀z B' w',Ed dbk pb FD D j S0 N0 w0 w' (bks L) Y F M (x.1,x.2.1,x.2.2.1,z) { n with kids:=insAt n.kids i A } B'->Own (bks L) w' w' L->Keep FD Y F B B' (bks L) w w'->K z w'): cW 147 [x.2.2.2.v,.i ii,.slice (pW vb) 1 1] [.one .slice] w K:=by obtain⟨Bk,C,y,E⟩:=e.node.kidsL;refine qsm C hi J O (h.at I) (fun U=>e.sep vb (qne I) (y vb U)) fun z Bk' w' V f nk=>?_;obtain⟨B',G,hN⟩:=E z _ Bk' w' f (fun b C=>e.rd b (y b C)) nk fun a ha=>(qgl ha).elim (fun h=>by rw[h];exact Q) (e.node.2.1.2.2 a);obtain⟨e',h'⟩:=e.edit h y f (hN _ (e.newZ G) V) G;exact R z B' w' e' h' (e.keep y f G)
def Ed.delK(e:Ed dbk pb FD D j S0 N0 w0 w (bks L) Y F M x n B)(h:Own T wa w L)(hi:i<n.keys.length)(E:ii=i)(G:jj=((i+1:Nat):Int))(I:n.keys.length<=100000)(J:∀z B' w',Ed dbk pb FD D j S0 N0 w0 w' (bks L) Y F M (x.1,z,x.2.2) { n with keys:=delAt n.keys i } B'->Own (bks L) w' w' L->Keep FD Y F B B' (bks L) w w'->K z w'): cW 151 [x.2.1.v,.i ii,.i jj] [.one .slice] w K:=by obtain⟨Bk,y,u,C⟩:=e.node.keysL;refine y.del (fun b y=>e.rd b (u b y)) hi E G I fun z w' O f=>?_;obtain⟨B',A,Q⟩:=C z _ Bk w' f (fun b y=>e.rd b (u b y)) (fun b y=>.inl y) fun a R=>e.node.2.1.1 a (qgk R);obtain⟨U,V⟩:=e.edit h u f (Q _ (e.newZ A) (O _ (e.newZ A))) A;exact J z B' w' U V (e.keep u f A)
def Ed.delV(e:Ed dbk pb FD D j S0 N0 w0 w (bks L) Y F M x n B)(h:Own T wa w L)(hi:i<n.vals.length)(E:ii=i)(G:jj=((i+1:Nat):Int))(I:n.vals.length<=100000)(J:∀z B' w',Ed dbk pb FD D j S0 N0 w0 w' (bks L) Y F M (x.1,x.2.1,z,x.2.2.2) { n with vals:=delAt n.vals i } B'->Own (bks L) w' w' L->Keep FD Y F B B' (bks L) w w'->K z w'): cW 151 [x.2.2.1.v,.i ii,.i jj] [.one .slice] w K:=by obtain⟨Bk,y,u,C⟩:=e.node.valsL;refine y.del (fun b y=>e.rd b (u b y)) hi E G I fun z w' O f=>?_;obtain⟨B',A,Q⟩:=C z _ Bk w' f (fun b y=>e.rd b (u b y)) (fun b y=>.inl y) fun a R=>e.node.2.1.2.1 a (qgk R);obtain⟨U,V⟩:=e.edit h u f (Q _ (e.newZ A) (O _ (e.newZ A))) A;exact J z B' w' U V (e.keep u f A)
def Ed.delI(e:Ed dbk pb FD D j S0 N0 w0 w (bks L) Y F M x n B)(h:Own T wa w L)(hi:i<n.kids.length)(E:ii=i)(G:jj=((i+1:Nat):Int))(I:n.kids.length<=100000)(J:∀y B' w',Ed dbk pb FD D j S0 N0 w0 w' (bks L) Y F M (x.1,x.2.1,x.2.2.1,y) { n with kids:=delAt n.kids i } B'->Own (bks L) w' w' L->Keep FD Y F B B' (bks L) w w'->K y w'): cW 222 [x.2.2.2.v,.i ii,.i jj] [.one .slice] w K:=by obtain⟨Bk,z,u,A⟩:=e.node.kidsL;refine qsj z hi E G I fun y w' O f=>?_;obtain⟨B',C,Q⟩:=A y _ Bk w' f (fun b z=>e.rd b (u b z)) (fun b z=>.inl z) fun a R=>e.node.2.1.2.2 a (qgk R);obtain⟨U,V⟩:=e.edit h u f (Q _ (e.newZ C) O) C;exact J y B' w' U V (e.keep u f C)
def Ed.setK{K:WP}(e:Ed dbk pb FD D j S0 N0 w0 w (bks L) Y F M x n B)(h:Own T wa w L)(hi:i<n.keys.length)(C:ii=i)(E:RdB (Zo FD (bks L++(B++Y)) F) w ks key)(G:IsB key)(I:∀B' w',Ed dbk pb FD D j S0 N0 w0 w' (bks L) Y F M (x.1,x.2.1,x.2.2) { n with keys:=n.keys.set i key } B'->Own (bks L) w' w' L->Keep FD Y F B B' (bks L) w w'->K w'): idx x.2.1 ii 1 fun a=>st a [ks.v] w K:=by
 obtain⟨Bk,y,u,A⟩:=e.node.keysL;refine y.set (fun b y=>e.rd b (u b y)) hi C E fun w' J f=>?_;obtain⟨B',z,O⟩:=A x.2.1 _ Bk w' f (fun b y=>e.rd b (u b y)) (fun b y=>.inl y) fun a Q=>(mem_or_eq_of_mem_set Q).elim (e.node.2.1.1 a) fun h=>by rw[h];exact G
 obtain⟨R,U⟩:=e.edit h u f (O _ (e.newZ z) (J _ (e.newZ z))) z;exact I B' w' R U (e.keep u f z)
def Ed.setV{K:WP}(e:Ed dbk pb FD D j S0 N0 w0 w (bks L) Y F M x n B)(h:Own T wa w L)(hi:i<n.vals.length)(C:ii=i)(E:RdB (Zo FD (bks L++(B++Y)) F) w ks key)(G:IsB key)(I:∀B' w',Ed dbk pb FD D j S0 N0 w0 w' (bks L) Y F M (x.1,x.2.1,x.2.2.1,x.2.2.2) { n with vals:=n.vals.set i key } B'->Own (bks L) w' w' L->Keep FD Y F B B' (bks L) w w'->K w'): idx x.2.2.1 ii 1 fun a=>st a [ks.v] w K:=by
 obtain⟨Bk,y,u,A⟩:=e.node.valsL;refine y.set (fun b y=>e.rd b (u b y)) hi C E fun w' J f=>?_;obtain⟨B',z,O⟩:=A x.2.2.1 _ Bk w' f (fun b y=>e.rd b (u b y)) (fun b y=>.inl y) fun a Q=>(mem_or_eq_of_mem_set Q).elim (e.node.2.1.2.1 a) fun h=>by rw[h];exact G
 obtain⟨R,U⟩:=e.edit h u f (O _ (e.newZ z) (J _ (e.newZ z))) z;exact I B' w' R U (e.keep u f z)
def Ed.setI{A:Int}{K:WP}(e:Ed dbk pb FD D j S0 N0 w0 w (bks L) Y F M x n B)(h:Own T wa w L)(hi:i<n.kids.length)(G:ii=i)(I:U32 A)(J:∀B' w',Ed dbk pb FD D j S0 N0 w0 w' (bks L) Y F M (x.1,x.2.1,x.2.2.1,x.2.2.2) { n with kids:=n.kids.set i A } B'->Own (bks L) w' w' L->Keep FD Y F B B' (bks L) w w'->K w'): idx x.2.2.2 ii 1 fun a=>st a [.u A] w K:=by
 obtain⟨Bk,z,y,C⟩:=e.node.kidsL;refine qyl z hi G fun w' O f=>?_;obtain⟨B',E,Q⟩:=C x.2.2.2 _ Bk w' f (fun b z=>e.rd b (y b z)) (fun b z=>.inl z) fun a R=>(mem_or_eq_of_mem_set R).elim (e.node.2.1.2.2 a) fun h=>by rw[h];exact I
 obtain⟨U,V⟩:=e.edit h y f (Q _ (e.newZ E) O) E;exact J B' w' U V (e.keep y f E)
def Ed.appK(e:Ed dbk pb FD D j S0 N0 w0 w (bks L) Y F M x n B)(h:Own T wa w L)(E:n.keys.length<=100000)(q:Nat)(G:L[q]?=some (vb,.cells #[elSl ks] T' (0,0)))(I:RdB (Zo FD (bks L++(B++Y)) F) w ks key)(J:IsB key)(O:∀y B' w',Ed dbk pb FD D j S0 N0 w0 w' (bks L) Y F M (x.1,y,x.2.2) { n with keys:=n.keys++[key] } B'->Own (bks L) w' w' L->Keep FD Y F B B' (bks L) w w'->K y w'): Pt.run [Ty1.one Cell.slice] ((Builtin.append_ #[161,161] 161 #[x.2.1.v,.slice (pW vb) 1 1]).run prog w) K:=by
 obtain⟨Bk,z,u,C⟩:=e.node.keysL;refine z.app1 (fun b z=>e.rd b (u b z)) E (h.at G) I fun y Bk' w' Q f R=>?_;obtain⟨B',A,U⟩:=C y _ Bk' w' f (fun b z=>e.rd b (u b z)) R fun a V=>(zD.1 V).elim (e.node.2.1.1 a) fun h=>by rw[zE.1 h];exact J
 obtain⟨e',h'⟩:=e.edit h u f (U _ (e.newZ A) (Q _ (e.newZ A))) A;exact O y B' w' e' h' (e.keep u f A)
def Ed.appV(e:Ed dbk pb FD D j S0 N0 w0 w (bks L) Y F M x n B)(h:Own T wa w L)(E:n.vals.length<=100000)(q:Nat)(G:L[q]?=some (vb,.cells #[elSl ks] T' (0,0)))(I:RdB (Zo FD (bks L++(B++Y)) F) w ks key)(J:IsB key)(O:∀y B' w',Ed dbk pb FD D j S0 N0 w0 w' (bks L) Y F M (x.1,x.2.1,y,x.2.2.2) { n with vals:=n.vals++[key] } B'->Own (bks L) w' w' L->Keep FD Y F B B' (bks L) w w'->K y w'): Pt.run [Ty1.one Cell.slice] ((Builtin.append_ #[161,161] 161 #[x.2.2.1.v,.slice (pW vb) 1 1]).run prog w) K:=by
 obtain⟨Bk,z,u,C⟩:=e.node.valsL;refine z.app1 (fun b z=>e.rd b (u b z)) E (h.at G) I fun y Bk' w' Q f R=>?_;obtain⟨B',A,U⟩:=C y _ Bk' w' f (fun b z=>e.rd b (u b z)) R fun a V=>(zD.1 V).elim (e.node.2.1.2.1 a) fun h=>by rw[zE.1 h];exact J
 obtain⟨e',h'⟩:=e.edit h u f (U _ (e.newZ A) (Q _ (e.newZ A))) A;exact O y B' w' e' h' (e.keep u f A)
def Ed.appI{A:Int}(e:Ed dbk pb FD D j S0 N0 w0 w (bks L) Y F M x n B)(h:Own T wa w L)(I:n.kids.length<=100000)(q:Nat)(J:L[q]?=some (vb,.cells #[.u A] T' (0,0)))(O:U32 A)(Q:∀z B' w',Ed dbk pb FD D j S0 N0 w0 w' (bks L) Y F M (x.1,x.2.1,x.2.2.1,z) { n with kids:=n.kids++[A] } B'->Own (bks L) w' w' L->Keep FD Y F B B' (bks L) w w'->K z w'): Pt.run [Ty1.one Cell.slice] ((Builtin.append_ #[31,31] 31 #[x.2.2.2.v,.slice (pW vb) 1 1]).run prog w) K:=by
 obtain⟨Bk,C,y,E⟩:=e.node.kidsL;refine qnc C I (h.at J) fun z Bk' w' R f U=>?_;obtain⟨B',G,V⟩:=E z _ Bk' w' f (fun b C=>e.rd b (y b C)) U fun a ha=>(zD.1 ha).elim (e.node.2.1.2.2 a) fun h=>by rw[zE.1 h];exact O
 obtain⟨e',h'⟩:=e.edit h y f (V _ (e.newZ G) R) G;exact Q z B' w' e' h' (e.keep y f G)
def Ed.appAllK(e:Ed dbk pb FD D j S0 N0 w0 w (bks L) Y F M x n B)(h:Own T wa w L)(G:n.keys.length+ps.length<=100000)(I:Rds encSl 1 S w src (slsP ps))(C:∀p∈ps,RdB (Zo FD (bks L++(B++Y)) F) w p.1 p.2)(J:∀a∈keyP ps,IsB a)(O:∀y B' w',Ed dbk pb FD D j S0 N0 w0 w' (bks L) Y F M (x.1,y,x.2.2) { n with keys:=n.keys++keyP ps } B'->Own (bks L) w' w' L->Keep FD Y F B B' (bks L) w w'->K y w'): Pt.run [Ty1.one Cell.slice] ((Builtin.append_ #[161,161] 161 #[x.2.1.v,src.v]).run prog w) K:=by obtain⟨Bk,z,u,E⟩:=e.node.keysL;refine z.appAll (fun b z=>e.rd b (u b z)) G I C fun y Bk' w' Q f R=>?_;obtain⟨B',A,U⟩:=E y _ Bk' w' f (fun b z=>e.rd b (u b z)) R fun a V=>(zD.1 V).elim (e.node.2.1.1 a) (J a);obtain⟨e',h'⟩:=e.edit h u f (U _ (e.newZ A) (Q _ (e.newZ A))) A;exact O y B' w' e' h' (e.keep u f A)
def Ed.appAllV(e:Ed dbk pb FD D j S0 N0 w0 w (bks L) Y F M x n B)(h:Own T wa w L)(G:n.vals.length+ps.length<=100000)(I:Rds encSl 1 S w src (slsP ps))(C:∀p∈ps,RdB (Zo FD (bks L++(B++Y)) F) w p.1 p.2)(J:∀a∈keyP ps,IsB a)(O:∀y B' w',Ed dbk pb FD D j S0 N0 w0 w' (bks L) Y F M (x.1,x.2.1,y,x.2.2.2) { n with vals:=n.vals++keyP ps } B'->Own (bks L) w' w' L->Keep FD Y F B B' (bks L) w w'->K y w'): Pt.run [Ty1.one Cell.slice] ((Builtin.append_ #[161,161] 161 #[x.2.2.1.v,src.v]).run prog w) K:=by obtain⟨Bk,z,u,E⟩:=e.node.valsL;refine z.appAll (fun b z=>e.rd b (u b z)) G I C fun y Bk' w' Q f R=>?_;obtain⟨B',A,U⟩:=E y _ Bk' w' f (fun b z=>e.rd b (u b z)) R fun a V=>(zD.1 V).elim (e.node.2.1.2.1 a) (J a);obtain⟨e',h'⟩:=e.edit h u f (U _ (e.newZ A) (Q _ (e.newZ A))) A;exact O y B' w' e' h' (e.keep u f A)
def Ed.appAllI{ys:List Int}(e:Ed dbk pb FD D j S0 N0 w0 w (bks L) Y F M x n B)(h:Own T wa w L)(G:n.kids.length+ys.length<=100000)(I:Rds encU 1 S w src ys)(J:∀y∈ys,U32 y)(O:∀z B' w',Ed dbk pb FD D j S0 N0 w0 w' (bks L) Y F M (x.1,x.2.1,x.2.2.1,z) { n with kids:=n.kids++ys } B'->Own (bks L) w' w' L->Keep FD Y F B B' (bks L) w w'->K z w'): Pt.run [Ty1.one Cell.slice] ((Builtin.append_ #[31,31] 31 #[x.2.2.2.v,src.v]).run prog w) K:=by obtain⟨Bk,A,u,C⟩:=e.node.kidsL;refine qwF A G I fun z Bk' w' Q f R=>?_;obtain⟨B',E,U⟩:=C z _ Bk' w' f (fun b A=>e.rd b (u b A)) R fun a V=>(zD.1 V).elim (e.node.2.1.2.2 a) (J a);obtain⟨e',h'⟩:=e.edit h u f (U _ (e.newZ E) Q) E;exact O z B' w' e' h' (e.keep u f E)
end
end
section
def qeZ{D:DiskM}{M:PgM}(h:loadN D M k v p=(n,0)):rightV n k v:=by
 unfold loadN at h;split at h;rename_i u;exact absurd (congrArg (·.2) h) u
 have:=qqv (kind:=(pagerReadM D M p).1) (b:=(pagerReadM D M p).2.1) (k:=k) (v:=v) (by rw[h])
 rw[h] at this;exact this
def qe2(h:rightV n k v):n.keys.length<=498/\n.vals.length<=498/\n.kids.length<=498/\(n.leaf=true->n.vals.length=n.keys.length/\n.keys.length<=(capsV k v).1)/\(n.leaf=false->n.keys.length+1=n.kids.length/\n.kids.length<=(capsV k v).2/\2<=n.kids.length):=by
 have G:=qbY (k:=k) (v:=v);obtain⟨_,_,_,u⟩:=h;cases C:n.leaf with
 | true=>
  rw[C,if_pos rfl] at u;obtain⟨y,E,z,A⟩:=u;rw[y];exact⟨oJ,oJ,oL,fun _=>⟨A,z⟩,fun h=>nomatch h⟩
 | false=>
  rw[C,if_neg oM] at u;obtain⟨_,y,E,z,A⟩:=u;rw[y];exact⟨oJ,oL,oJ,fun h=>(nomatch h),fun _=>⟨A,z,E⟩⟩
section
variable {D:DiskM} {M M1:PgM} {k v f:Nat} {key val:Key} {p e0 e1:Int} {n:NodeM} {g:Grown}
def qv0(h:loadN D M k v p=(n,e0))(u:e0≠0):putN D k v key val (f+1) M p=((zeroG,e0),M):=by unfold putN;rw[h,if_pos u]
def qv1(h:loadN D M k v p=(n,0))(u:n.leaf=true)(y:n.keys[placeV n.keys key]?=some key):putN D k v key val (f+1) M p=splitN k v M p { n with vals:=n.vals.set (placeV n.keys key) val } false:=by unfold putN;rw[h,if_neg (fun h=>h rfl),if_pos u,if_pos y]
def quE(h:loadN D M k v p=(n,0))(u:n.leaf=true)(y:¬n.keys[placeV n.keys key]?=some key):putN D k v key val (f+1) M p=splitN k v M p { n with keys:=insAt n.keys (placeV n.keys key) key,vals:=insAt n.vals (placeV n.keys key) val } true:=by unfold putN;rw[h,if_neg (fun h=>h rfl),if_pos u,if_neg y]
def qoq(h:loadN D M k v p=(n,0))(u:¬n.leaf=true)(y:putN D k v key val f M (n.kids.getD (kidV n.keys key) 0)=((g,e1),M1))(z:e1≠0):putN D k v key val (f+1) M p=((zeroG,e1),M1):=by unfold putN;rw[h,if_neg (fun h=>h rfl),if_neg u];dsimp only;rw[y,if_pos z]
def quF(h:loadN D M k v p=(n,0))(u:¬n.leaf=true)(y:putN D k v key val f M (n.kids.getD (kidV n.keys key) 0)=((g,0),M1))(z:g.page=n.kids.getD (kidV n.keys key) 0/\g.other=0):putN D k v key val (f+1) M p=((⟨p,g.fresh,[],0⟩,0),M1):=by unfold putN;rw[h,if_neg (fun h=>h rfl),if_neg u];dsimp only;rw[y,if_neg (fun h=>h rfl),if_pos z]
def qxg(h:loadN D M k v p=(n,0))(u:¬n.leaf=true)(y:putN D k v key val f M (n.kids.getD (kidV n.keys key) 0)=((g,0),M1))(z:¬(g.page=n.kids.getD (kidV n.keys key) 0/\g.other=0)):putN D k v key val (f+1) M p=splitN k v M1 p (grownN n (kidV n.keys key) g) g.fresh:=by unfold putN;rw[h,if_neg (fun h=>h rfl),if_neg u];dsimp only;rw[y,if_neg (fun h=>h rfl),if_neg z]
end
def qvS(u:n.leaf=true)(y:n.vals.length=n.keys.length):(sizeN n k v).1>(sizeN n k v).2->MidOk n ((sizeN n k v).1 / 2):=fun h=>by unfold MidOk;have e:(sizeN n k v).1=n.keys.length:=(by unfold sizeN;rw[if_pos u]);rw[if_pos u,y];rw[e] at h⊢;omega
def quv(u:¬n.leaf=true)(y:n.keys.length+1=n.kids.length)(z:2<=n.kids.length):(sizeN n k v).1>(sizeN n k v).2->MidOk n ((sizeN n k v).1 / 2):=fun h=>by unfold MidOk;have e:(sizeN n k v).1=n.kids.length:=(by unfold sizeN;rw[if_neg u]);rw[if_neg u];rw[e] at h⊢;omega
def qen{α:Type}{l:List α}{x:α}(h:i<=l.length):(insAt l i x).length=l.length+1:=by unfold insAt;simp;omega
def Rds.getU{l:List Int}{i:Int}{K:Addr->Int->Prop}(h:Rds encU 1 S w s l)(n:Nat)(hi:i=n)(I:n<l.length)(J:∀a,(∀S' w',Rds encU 1 S' w' s l->w'.cell? a=some (.u l[n]))->K a l[n]):idx s i 1 fun a=>ld .u a w fun y=>K a y:=by
 subst hi;have E:l[n]?=some l[n]:=zA I;obtain⟨U,b,o,G,_,V,T,fr,hb,hc⟩:=h.at n E;refine qbE G ⟨oJ,oJ⟩ ?_;rw[zJ];have key:∀S' w',Rds encU 1 S' w' s l->w'.cell? ⟨b,o+n*1,none⟩=some (.u l[n]):=fun S' w' O=>by
  obtain⟨_,b',o',z,_,Q,T',R,A,C⟩:=O.at n E;rw[G] at z;cases z;rw[qai A]
  have:=congrArg (·[0]?) C
  simpa[encU] using this
 exact qeY l[n] (key S w h) (J _ key)
section
variable {dbk pb j:Nat} {FD S0 N0 Y F F' F0 T B:List Nat} {D:DiskM} {w0 wa w w':World} {M M':PgM} {L:List (Nat×Obj)} {x:NdC} {n:NodeM} {k v:Nat} {t:Int}
def Ed.load{w7:World}(y:∀b∈N0,b∈S0)(g:Sg S0 w0 wa F T)(h:Own T wa w L)(A:TW dbk pb FD D j w7 (B++(bks L++Y)) F M)(C:NodeB (Zo FD (B++(bks L++Y)) F) w7 x n B)(f:Fr [] w w7)(z:∀c∈B,w.heap.size<=c)(E:∀b∈Y,b<w.heap.size): Ed dbk pb FD D j S0 N0 w0 w7 (bks L) Y F M x n B/\Own (bks L) w7 w7 L:=by
 refine⟨⟨g.next0 h f,A.weakY fun b u=>?_,C.weak fun b u=>.inl ?_,fun b u G=>?_,fun b u=>.inr (zL (g.fr h).size (z b u)),y,fun b u I=>?_⟩,qaV h f fun _ _ h=>nomatch h⟩;simp only[zD] at u⊢;rcases u with u|u|u<;>simp[u];simp only[Zo,zD,zG] at u⊢;rcases u with (u|u|u|u|u)|u<;>simp[u]
 have:=qjr h b u;have:=z b G;omega
 have:=E b I;have:=z b u;omega
def Ed.kidsR(e:Ed dbk pb FD D j S0 N0 w0 w T Y F M x n B):Rds encU 1 (Zo FD (T++Y) F) w x.2.2.2 n.kids:=e.nodeR.2.2.2.2
def Ed.fr(e:Ed dbk pb FD D j S0 N0 w0 w T Y F M x n B):Fr S0 w0 w:=e.sg.tot
def qao(h:Own T wa w L)(u:L'.Sublist L):Own (bks L') w w L':=(h.sub u).rebase
def qny{ks vs:Sl}{key val:Key}(ab:IsB key)(ae:IsB val):∀(f:Nat) {Y F:List Nat} {w0:World} {M:PgM} {p:Int} {K:GrC×Int->WP} (hT:TW dbk pb FD D j w0 Y F M) (hp:U32 p) (hk:RdB (Zo FD Y F) w0 ks key) (hv:RdB (Zo FD Y F) w0 vs val) (ai:(putN D k v key val f M p).1.2≠-1) (kk:∀gs F' w',GOk (putN D k v key val f M p).1.1->TW dbk pb FD D j w' Y F' (putN D k v key val f M p).2->RdB (Zo FD Y F') w' gs (putN D k v key val f M p).1.1.key->Fr F w0 w'->(∀b∈F',b∈F\/w0.heap.size<=b)->K (grX (putN D k v key val f M p).1.1 gs,(putN D k v key val f M p).1.2) w'), cW 107 [.agg (wkV (wkX k v pb t)),.u p,ks.v,vs.v] [.agg qaY,.one .i] w0 K
 | 0,_,_,_,_,_,_,_,_,_,_,ai,_=>absurd rfl ai
 | f+1,Y,F,w0,M,p,K,hT,hp,hk,hv,ai,kk=>by
  refine qlZ ?_;unfold qhC qb7 qdE qb8;have h:=oE [] w0;have g:=Sg.start F w0;refine oB h fun r1 w2 _ _ h=>oB h fun r3 w4 _ _ h=>oC h 1 rfl (wkX k v pb t) rfl ?_;rcases I:loadN D M k v p with ⟨n,e0⟩;refine qhc (k:=k) (v:=v) (hT.now0 h) hp fun x B w7 a7 aF f7 a8=>?_;rw[I] at aF⊢;dsimp only at aF;obtain⟨e,h⟩:=Ed.load (N0:=[]) (fun _ h=>nomatch h) g h a7 aF f7 a8 fun b hb=>yC (hT.ylt b hb) h.fr.size;refine oB h fun r8 w9 _ _ h=>oD h 0 rfl (ndV x) fun bH h _=>qaa (fun Q=>?_) (fun Q=>?_);have aP:e0≠0:=by rw[zT] at Q;exact zR.1 Q
  rw[qv0 I aP] at kk;exact oD h 1 rfl (grV (0,false,⟨none,0,0⟩,0)) fun a9 h _=>oC h 1 rfl (0,false,⟨none,0,0⟩,0) rfl<|kk ⟨none,0,0⟩ F a9 ql1 (e.now h).tw'.drop0 (.nil _ _ _ _) (e.now h).fr (e.now h).sg.new;have a':e0=0:=by rw[yD] at Q;exact yO.1 Q
  subst a';have hr:=qeZ I;obtain⟨l1,l2,l3,l4,l5⟩:=qe2 hr;have e:=e.now h;have h:=qao h (.refl _);have aQ:x.1=n.leaf:=e.node.1;refine oA h 0 rfl x.1 rfl<|qaa (fun Q=>?_) (fun Q=>?_);rw[aQ] at Q;obtain⟨l6,l7⟩:=l4 Q;refine oC h 0 rfl x rfl<|qlh e.nodeR (e.rdb hk) ab hr.2.2.1 oJ fun bL bc=>?_;obtain⟨e,h⟩:=e.next0 h bc;have ak:=qon n.keys key;refine qaf (fun _ w'=>∃x' n' B',Own [r8,r3,r1] w' w' [(r8,.cells (ndV x') ND (0,0)),(r3,.cells (grV (0,false,⟨none,0,0⟩,0)) GR (0,0)),(r1,.cells (wkV (wkX k v pb t)) WK (0,0))]/\Ed dbk pb FD D j F [] w0 w' [r8,r3,r1] Y F M x' n' B'/\
   putN D k v key val (f+1) M p=splitN k v M p n' (!decide (n.keys[placeV n.keys key]?=some key))/\n'.leaf=true/\n'.vals.length=n'.keys.length/\n'.keys.length<=1000/\n'.kids.length<=1000) ?_ ?_
  refine qaa (fun J=>?_) (fun J=>?_);have aH:=zC J;have bM:=(zP.1 aH).1;refine oA h 0 rfl x.2.2.1 rfl<|e.setV h (i:=placeV n.keys key) oJ rfl (e.rdb hv) ae fun B' bN e h _=>⟨x,_,B',h,e,?_,Q,by dsimp only;rw[xE];exact l6,by dsimp only;omega,by dsimp only;omega⟩;rw[qv1 I Q aH,zZ aH];rfl;have ax:=zB J;have E:putN D k v key val (f+1) M p=splitN k v M p { n with keys:=insAt n.keys (placeV n.keys key) key,vals:=insAt n.vals (placeV n.keys key) val } (!decide (n.keys[placeV n.keys key]?=some key)):=by rw[quE I Q ax,zU ax];rfl
  have al:(insAt n.vals (placeV n.keys key) val).length=(insAt n.keys (placeV n.keys key) key).length:=(by rw[qen oJ,qen ak,l6]);have am:(insAt n.keys (placeV n.keys key) key).length<=1000:=(by rw[qen ak];omega);refine⟨?_,?_,?_⟩;have h:=oF h;refine oA h 0 rfl x.2.1 rfl<|oA h 0 rfl x.2.2.1 rfl<|oB h fun bO bP _ _ h=>qan (h.cell 1 rfl rfl) (h.cell 1 rfl rfl) ?_;have e:=e.now h;refine e.insK h (i:=placeV n.keys key) ak rfl oJ 0 rfl (e.rdb hk) ab fun R B1 aR e h _=>qaj (h.cell 1 rfl rfl)<|oB h fun bQ bR _ _ h=>qan (h.cell 2 rfl rfl) (h.cell 2 rfl rfl) ?_;have e:=e.now h;exact e.insV h (i:=placeV n.keys key) oN rfl oN 0 rfl (e.rdb hv) ae fun an B2 aS e h _=>oD h 2 rfl (ndV (x.1,R,x.2.2.1,x.2.2.2)) fun aT h _=>oD h 2 rfl (ndV (x.1,R,an,x.2.2.2)) fun aU h _=>⟨_,_,B2,qao h (.cons _ (.cons _ (.refl _))),(e.now h).sub oL,E,Q,al,am,by dsimp only;omega⟩;have h:=oF h;refine oA h 0 rfl x.2.1 rfl<|oA h 0 rfl x.2.2.1 rfl<|oB h fun bS bT _ _ h=>qan (h.cell 1 rfl rfl) (h.cell 1 rfl rfl)<|oB h fun bU bV _ _ h=>qan (h.cell 2 rfl rfl) (h.cell 2 rfl rfl) ?_;have e:=e.now h;exact e.insK h (i:=placeV n.keys key) ak rfl oJ 1 rfl (e.rdb hk) ab fun R B1 aR e h _=>qaj (h.cell 2 rfl rfl)<|e.insV h (i:=placeV n.keys key) oN rfl oN 0 rfl (e.rdb hv) ae fun an B2 aS e h _=>oD h 2 rfl (ndV (x.1,R,x.2.2.1,x.2.2.2)) fun aT h _=>oD h 2 rfl (ndV (x.1,R,an,x.2.2.2)) fun aU h _=>⟨_,_,B2,qao h (.cons _ (.cons _ (.refl _))),(e.now h).sub oL,E,Q,al,am,by dsimp only;omega⟩;have h:=oF h;refine oA h 0 rfl x.2.1 rfl<|oA h 0 rfl x.2.2.1 rfl<|oB h fun bW bX _ _ h=>qan (h.cell 1 rfl rfl) (h.cell 1 rfl rfl)<|oB h fun bY bZ _ _ h=>qan (h.cell 2 rfl rfl) (h.cell 2 rfl rfl) ?_;have e:=e.now h;exact e.insK h (i:=placeV n.keys key) ak rfl oJ 0 rfl (e.rdb hk) ab fun R B1 aR e h _=>qaj (h.cell 2 rfl rfl)<|e.insV h (i:=placeV n.keys key) oN rfl oN 1 rfl (e.rdb hv) ae fun an B2 aS e h _=>oD h 2 rfl (ndV (x.1,R,x.2.2.1,x.2.2.2)) fun aT h _=>oD h 2 rfl (ndV (x.1,R,an,x.2.2.2)) fun aU h _=>⟨_,_,B2,qao h (.cons _ (.cons _ (.refl _))),(e.now h).sub oL,E,Q,al,am,by dsimp only;omega⟩;rintro _ b0 ⟨x',n',B',h,e,E,m0,m1,m2,m3⟩;rw[E] at kk;refine oC h 2 rfl (wkX k v pb t) rfl<|oC h 0 rfl x' rfl<|qoD (Y:=[r8,r3,r1]++Y) e.tw' e.nodeR oJ oJ oJ (qvS m0 m1) hp fun gs F' b3 hG aV z aW bd=>?_;have g:=e.sg.next h aW bd
  have h:=qaV h aW fun b hb=>e.tw'.yf b (by simp at hb⊢;rcases hb with h|h|h<;>simp[h]);exact oG h 1 rfl (grV (grX (splitN k v M p n' (!decide (n.keys[placeV n.keys key]?=some key))).1.1 gs)) rfl rfl (zO rfl) fun bf h _=>oC h 1 rfl (grX (splitN k v M p n' (!decide (n.keys[placeV n.keys key]?=some key))).1.1 gs) rfl<|kk gs F' bf hG (aV.now h).drop0 (qlN (qaM z h)) (g.fr h) g.new
  ·rw[aQ] at Q;have af:¬n.leaf=true:=(by rw[Q];decide);obtain⟨l6,l7,l8⟩:=l5 Q;refine oC h 0 rfl x rfl<|qpf e.nodeR (e.rdb hk) ab hr.2.2.1 oJ fun b4 bg=>?_;obtain⟨e,h⟩:=e.next0 h bg;have ao:=qj3 n.keys key;generalize ar:kidV n.keys key=c at ao⊢;have ag:c<n.kids.length:=oJ;have aI:n.kids.getD c 0=n.kids[c]:=(by rw[yQ,zA ag];rfl);have hu:U32 n.kids[c]:=e.node.2.1.2.2 _ (zW ag);rcases ap:putN D k v key val f M n.kids[c] with ⟨⟨A,e1⟩,M1⟩;have U:putN D k v key val f M (n.kids.getD (kidV n.keys key) 0)=((A,e1),M1):=(by rw[ar,aI];exact ap);have ay:e1≠-1:=fun h1=>by rw[h1] at U;rw[qoq I af U oM] at ai;exact ai rfl
   refine⟨?a,?b⟩;case' a=>
    have h:=oF h;have e:=e.now h;refine oC h 2 rfl (wkX k v pb t) rfl<|oA h 0 rfl x.2.2.2 rfl<|Rds.getU e.kidsR c rfl ag fun bh hh=>qny ab ae f e.tw hu (e.rdb hk) (e.rdb hv) (by rw[ap];exact ay) fun gs F1 bi hG V z aJ aK=>?_;rw[ap] at hG V z⊢;obtain⟨e,h⟩:=e.next h V aJ aK
    refine oB h fun aq bj _ _ h=>qap (hh _ _ (e.now h).kidsR) (h.cell 1 rfl rfl) (h.cells 3 rfl rfl)<|oD h 0 rfl (grV (grX A gs)) fun aY h _=>?_;have z:=qaM z h;have e:=e.now h;have h:=qao h (.refl _)
   case' b=>
    have h:=oF h;have e:=e.now h;have h:=qao h (.refl _);refine oC h 2 rfl (wkX k v pb t) rfl<|oA h 0 rfl x.2.2.2 rfl<|Rds.getU e.kidsR c rfl ag fun bh hh=>oB h fun aq bj _ _ h=>?_;have e:=e.now h;refine qap (hh _ _ e.kidsR) (h.cell 1 rfl rfl) (h.cells 3 rfl rfl)<|qny ab ae f e.tw hu (e.rdb hk) (e.rdb hv) (by rw[ap];exact ay) fun gs F1 bi hG V z aJ aK=>?_;rw[ap] at hG V z⊢;obtain⟨e,h⟩:=e.next h V aJ aK
    refine oD h 0 rfl (grV (grX A gs)) fun aY h _=>?_;have z:=qaM z h;have e:=e.now h;have h:=qao h (.refl _)
   all_goals
    refine qaa (fun J=>?_) (fun J=>?_);have aZ:e1≠0:=by rw[zT] at J;exact zR.1 J
    rw[qoq I af U aZ] at kk;exact oD h 2 rfl (grV (0,false,⟨none,0,0⟩,0)) fun bk h _=>oC h 2 rfl (0,false,⟨none,0,0⟩,0) rfl<|kk ⟨none,0,0⟩ F1 bk ql1 (e.now h).tw'.drop0 (.nil _ _ _ _) (e.now h).fr (e.now h).sg.new;have bl:e1=0:=by rw[yD] at J;exact yO.1 J
    subst bl;refine qaf (fun b w'=>b=decide (A.page=n.kids[c]/\A.other=0)/\w'=aY.drew) ?_ ?_;have h:=oF h;refine oA h 0 rfl A.page rfl<|oA h 1 rfl x.2.2.2 rfl<|Rds.get (e.now h).kidsR c rfl (zA ag) (y:=n.kids[c]) rfl<|qaa (fun C=>?_) (fun C=>?_);have C:A.page=n.kids[c]:=yO.1 C;refine oA h 0 rfl A.other rfl ⟨?_,rfl⟩;rw[Bool.eq_iff_iff,yO,yM];exact⟨fun h=>⟨C,h⟩,fun h=>h.2⟩;have C:A.page≠n.kids[c]:=zR.1 C;exact⟨(zU fun h=>C h.1).symm,rfl⟩;rintro bo bp ⟨rfl,rfl⟩;have h:=oF h;have z:=qaM z h;have e:=e.now h;have h:=qao h (.refl _);refine qaa (fun C=>?_) (fun C=>?_);have C:=zC C;rw[<- aI,<- ar] at C;rw[quF I af U C] at kk;exact oA h 0 rfl A.fresh rfl<|oD h 2 rfl (grV (p,A.fresh,⟨none,0,0⟩,0)) fun a0 h _=>oC h 2 rfl (p,A.fresh,⟨none,0,0⟩,0) rfl<|kk ⟨none,0,0⟩ F1 a0 ⟨hp,qee,.nil⟩ (e.now h).tw'.drop0 (.nil _ _ _ _) (e.now h).fr (e.now h).sg.new;have C:=zB C;rw[<- aI,<- ar] at C;have E:=qxg I af U C;rw[ar] at E;rw[E] at kk;refine oA h 1 rfl x.2.2.2 rfl<|oA h 0 rfl A.page rfl<|e.setI h (i:=c) ag rfl hG.page fun B1 bq e h kp=>?_;have z:=kp.rdb _ _ z;refine qaf (fun _ w'=>∃x' B',Own [aq,r8,r3,r1] w' w' [(aq,.cells (grV (grX A gs)) GR (0,0)),(r8,.cells (ndV x') ND (0,0)),(r3,.cells (grV (0,false,⟨none,0,0⟩,0)) GR (0,0)),(r1,.cells (wkV (wkX k v pb t)) WK (0,0))]/\Ed dbk pb FD D j F [] w0 w' [aq,r8,r3,r1] Y F1 M1 x' (grownN n c A) B'/\
     ¬(grownN n c A).leaf=true/\(grownN n c A).keys.length+1=(grownN n c A).kids.length/\2<=(grownN n c A).kids.length/\(grownN n c A).kids.length<=1000/\(grownN n c A).vals.length<=1000) ?_ ?_
    refine oA h 0 rfl A.other rfl<|qaa (fun O=>?_) (fun O=>?_);have O:A.other≠0:=by rw[zT] at O;exact zR.1 O
    have eg:grownN n c A={ n with kids:=insAt (n.kids.set c A.page) (c+1) A.other,keys:=insAt n.keys c A.key }:=(by unfold grownN;rw[if_pos O]);have ad:¬(grownN n c A).leaf=true/\(grownN n c A).keys.length+1=(grownN n c A).kids.length/\2<=(grownN n c A).kids.length/\(grownN n c A).kids.length<=1000/\(grownN n c A).vals.length<=1000:=(by rw[eg];dsimp only;rw[qen ao,qen (l:=n.kids.set c A.page) (by rw[xE];omega),xE];exact⟨af,oJ,oJ,oJ,oJ⟩);rw[eg] at ad⊢;have ew:wrap .i64 ((c:Int)+1)=((c+1:Nat):Int):=qbD oJ;rw[ew];refine⟨?_,?_,?_⟩;have h:=oF h;refine oA h 1 rfl x.2.2.2 rfl<|oA h 0 rfl A.other rfl<|oA h 1 rfl x.2.1 rfl<|oA h 0 rfl gs rfl<|oB h fun br bs _ _ h=>qap (h.cell 1 rfl rfl) (h.cell 2 rfl rfl) (h.cell 2 rfl rfl) ?_;have z:=qaM z h;have e:=e.now h;refine e.insI h (i:=c+1) (by dsimp only;rw[xE];omega) rfl (by dsimp only;rw[xE];omega) 0 rfl hG.other fun G B2 az e h kp=>?_;have z:=kp.rdb _ _ z;refine qan (h.cell 1 rfl rfl) (h.cell 2 rfl rfl)<|oB h fun bt bu _ _ h=>qap (h.cell 3 rfl rfl) (h.cell 2 rfl rfl) (h.cell 3 rfl rfl) ?_;have z:=qaM z h;have e:=e.now h;exact e.insK h (i:=c) ao rfl oN 0 rfl z hG.key fun aa B3 aA e h _=>oD h 3 rfl (ndV (x.1,x.2.1,x.2.2.1,G)) fun aB h _=>oD h 3 rfl (ndV (x.1,aa,x.2.2.1,G)) fun aC h _=>⟨_,B3,qao h (.cons _ (.cons _ (.refl _))),(e.now h).sub oL,ad⟩;have h:=oF h;refine oA h 1 rfl x.2.2.2 rfl<|oA h 0 rfl A.other rfl<|oA h 1 rfl x.2.1 rfl<|oA h 0 rfl gs rfl<|oB h fun bv bw _ _ h=>qap (h.cell 1 rfl rfl) (h.cell 2 rfl rfl) (h.cell 2 rfl rfl)<|oB h fun bx bz _ _ h=>qap (h.cell 3 rfl rfl) (h.cell 2 rfl rfl) (h.cell 3 rfl rfl) ?_;have z:=qaM z h;have e:=e.now h;refine e.insI h (i:=c+1) (by dsimp only;rw[xE];omega) rfl (by dsimp only;rw[xE];omega) 1 rfl hG.other fun G B2 az e h kp=>?_;have z:=kp.rdb _ _ z;exact qan (h.cell 2 rfl rfl) (h.cell 3 rfl rfl)<|e.insK h (i:=c) ao rfl oN 0 rfl z hG.key fun aa B3 aA e h _=>oD h 3 rfl (ndV (x.1,x.2.1,x.2.2.1,G)) fun aB h _=>oD h 3 rfl (ndV (x.1,aa,x.2.2.1,G)) fun aC h _=>⟨_,B3,qao h (.cons _ (.cons _ (.refl _))),(e.now h).sub oL,ad⟩;have h:=oF h;refine oA h 1 rfl x.2.2.2 rfl<|oA h 0 rfl A.other rfl<|oA h 1 rfl x.2.1 rfl<|oA h 0 rfl gs rfl<|oB h fun bA bB _ _ h=>qap (h.cell 2 rfl rfl) (h.cell 1 rfl rfl) (h.cell 2 rfl rfl)<|oB h fun bC bD _ _ h=>qap (h.cell 2 rfl rfl) (h.cell 3 rfl rfl) (h.cell 3 rfl rfl) ?_;have z:=qaM z h;have e:=e.now h;refine e.insI h (i:=c+1) (by dsimp only;rw[xE];omega) rfl (by dsimp only;rw[xE];omega) 0 rfl hG.other fun G B2 az e h kp=>?_;have z:=kp.rdb _ _ z;exact qan (h.cell 2 rfl rfl) (h.cell 3 rfl rfl)<|e.insK h (i:=c) ao rfl oN 1 rfl z hG.key fun aa B3 aA e h _=>oD h 3 rfl (ndV (x.1,x.2.1,x.2.2.1,G)) fun aB h _=>oD h 3 rfl (ndV (x.1,aa,x.2.2.1,G)) fun aC h _=>⟨_,B3,qao h (.cons _ (.cons _ (.refl _))),(e.now h).sub oL,ad⟩;have O:¬A.other≠0:=(by rw[yD] at O;exact fun hh=>hh (yO.1 O));have eg:grownN n c A={ n with kids:=n.kids.set c A.page }:=(by unfold grownN;rw[if_neg O]);rw[eg];exact⟨x,B1,h,e,af,by dsimp only;rw[xE];omega,by dsimp only;rw[xE];omega,by dsimp only;rw[xE];omega,by dsimp only;omega⟩;rintro _ bE ⟨x',B',h,e,q1,q2,q3,q4,q5⟩;refine oC h 3 rfl (wkX k v pb t) rfl<|oC h 1 rfl x' rfl<|oA h 0 rfl A.fresh rfl<|qoD (Y:=[aq,r8,r3,r1]++Y) e.tw' e.nodeR oJ oJ oJ (quv q1 q2 q3) hp fun aM F2 bF bm aN a1 aD a2=>?_;have g:=e.sg.next h aD a2
    have h:=qaV h aD fun b hb=>e.tw'.yf b (by simp at hb⊢;rcases hb with h|h|h|h<;>simp[h]);exact oG h 2 rfl (grV (grX (splitN k v M1 p (grownN n c A) A.fresh).1.1 aM)) rfl rfl (zO rfl) fun a3 h _=>oC h 2 rfl (grX (splitN k v M1 p (grownN n c A) A.fresh).1.1 aM) rfl<|kk aM F2 a3 bm (aN.now h).drop0 (qlN (qaM a1 h)) (g.fr h) g.new
end
end
section
def qaG{H u y z:WP}{K:Prop}(h:H w)(A:u w)(C:y w)(E:z w)(k:K):held [H,u,y,z] w K:=by unfold held;exact⟨⟨h,A,C,E⟩,k⟩
structure Opn (S0 Z:List Nat) (w:World) (x:NdC) (n:NodeM) (pk pv:Kps):Prop where
 lens:NodeL x n
 nb:NB n
 keys:keyP pk=n.keys
 vals:keyP pv=n.vals
 rk:Rds encSl 1 S0 w x.2.1 (slsP pk)
 rv:Rds encSl 1 S0 w x.2.2.1 (slsP pv)
 ri:Rds encU 1 S0 w x.2.2.2 n.kids
 ek:∀ p∈pk,RdB Z w p.1 p.2
 ev:∀ p∈pv,RdB Z w p.1 p.2
section
variable {S S0 S0' Z Z' B:List Nat} {w w':World} {x:NdC} {n:NodeM} {pk pv:Kps}
def NodeB.opn(h:NodeB Z w x n B)(y:∀b∈B,b∉S0):∃pk pv,Opn S0 Z w x n pk pv:=by have A:NodeR [] w x n:=h.rd (fun _ _ h=>(nomatch h)) fun _ h=>nomatch h;have C:=A.lens;obtain⟨U,z,Bk,V,Bi,rfl,E,⟨pk,G,I,J⟩,⟨pv,K,O,Q⟩,R⟩:=h;exact⟨pk,pv,C,z,I,O,G.rds qcV fun b u=>y b (by simp[u]),K.rds qcV fun b u=>y b (by simp[u]),R.rds qaE fun b u=>y b (by simp[u]),J,Q⟩
def Opn.frame(h:Opn S0 Z w x n pk pv)(f:Fr S w w')(A:∀b∈S,b∈S0)(z:∀b∈S,b∈Z)(y:NewZ S0 w S0')(E:NewZ Z w Z'):Opn S0' Z' w' x n pk pv where
 lens:=h.lens
 nb:=h.nb
 keys:=h.keys
 vals:=h.vals
 rk:=h.rk.frame (f.mono fun b u _=>A b u) y
 rv:=h.rv.frame (f.mono fun b u _=>A b u) y
 ri:=h.ri.frame (f.mono fun b u _=>A b u) y
 ek:=fun p C=>(h.ek p C).frame (f.mono fun b u _=>z b u) E
 ev:=fun p C=>(h.ev p C).frame (f.mono fun b u _=>z b u) E
def Opn.klen(h:Opn S0 Z w x n pk pv):pk.length=n.keys.length:=by rw[<- h.keys,zK]
def Opn.vlen(h:Opn S0 Z w x n pk pv):pv.length=n.vals.length:=by rw[<- h.vals,zK]
def Opn.rdK(h:Opn S0 Z w x n pk pv)(u:∀b∈S0,b∈Z):RdK S0 w x.2.1 pk:=⟨h.rk,fun p y=>(h.ek p y).frame (.refl _ _) fun b z=>.inl (u b z)⟩
def Opn.rdV(h:Opn S0 Z w x n pk pv)(u:∀b∈S0,b∈Z):RdK S0 w x.2.2.1 pv:=⟨h.rv,fun p y=>(h.ev p y).frame (.refl _ _) fun b z=>.inl (u b z)⟩
def Rds.getS{i:Int}{K:Addr->Sl->Prop}(h:Rds encSl 1 S w s (slsP ps))(n:Nat)(hi:i=n)(G:n<ps.length)(I:∀a,(∀S' w',Rds encSl 1 S' w' s (slsP ps)->w'.cell? a=some (.slice ps[n].1.a ps[n].1.len ps[n].1.cap))->K a ps[n].1):idx s i 1 fun a=>ld .slice a w fun y=>K a y:=by
 subst hi;have C:(slsP ps)[n]?=some ps[n].1:=(by rw[zQ,zA G];rfl);obtain⟨R,b,o,E,_,U,T,V,hb,hc⟩:=h.at n C;refine qbE E ⟨oJ,oJ⟩ ?_;rw[zJ];have key:∀S' w',Rds encSl 1 S' w' s (slsP ps)->w'.cell? ⟨b,o+n*1,none⟩=some (.slice ps[n].1.a ps[n].1.len ps[n].1.cap):=fun S' w' J=>by
  obtain⟨_,b',o',u,_,O,T',Q,z,A⟩:=J.at n C;rw[E] at u;cases u;rw[qai z]
  have:=congrArg (·[0]?) A
  simpa[encSl] using this
 exact qeY ps[n].1 (key S w h) (I _ key)
def Opn.keyAt(h:Opn S0 Z w x n pk pv)(hi:i<pk.length):n.keys.getD i []=pk[i].2:=by rw[<- h.keys,qdU hi]
def Opn.valAt(h:Opn S0 Z w x n pk pv)(hi:i<pv.length):n.vals.getD i []=pv[i].2:=by rw[<- h.vals,qdU hi]
def qd5{n:NodeM}(hi:i<n.kids.length):n.kids.getD i 0=n.kids[i]:=by rw[yQ,zA hi];rfl
end
structure ShapeN (n:NodeM):Prop where
 leaf:n.leaf=true->n.vals.length=n.keys.length
 inner:n.leaf=false->n.kids.length=n.keys.length+1
 keys:n.keys.length<=2000
 vals:n.vals.length<=2000
 kids:n.kids.length<=2000
section
variable {dbk pb j:Nat} {FD Y F Bl Br:List Nat} {D:DiskM} {w0:World} {M:PgM} {xl xr:NdC} {nl nr:NodeM} {ks:Sl} {key:Key}
def zoT{b:Nat}(h:b∈T):b∈Zo FD (T++Y) F:=by simp[h]
def qjX:∀b∈Zo FD Y F,b∈Zo FD (T++(Bl++Y)) F:=fun b h=>by simp only[Zo,zD,zG] at h⊢;rcases h with (h|h|h)|h<;>simp[h]
def qg8{α:Type}(l:List α)(x:α):insAt l 0 x=x::l:=by unfold insAt;simp
def qvG{K:NdC×NdC×Sl->WP}(hT:TW dbk pb FD D j w0 (Br++(Bl++Y)) F M)(hl:NodeB (Zo FD (Br++(Bl++Y)) F) w0 xl nl Bl)(hr:NodeB (Zo FD (Br++(Bl++Y)) F) w0 xr nr Br)(d1:∀b∈Br,b∉Bl)(d2:∀b∈Br,b∉Y)(d3:∀b∈Bl,b∉Y)(hk:RdB (Zo FD (Br++(Bl++Y)) F) w0 ks key)(ap:IsB key)(a8:nl.leaf=nr.leaf)(h1:1<=nl.keys.length)(sl:ShapeN nl)(sr:ShapeN nr)(kk:∀yl yr ax w',TW dbk pb FD D j w' Y F M->NodeR (Zo FD Y F) w' yl (giveN nl nr key).1->NodeR (Zo FD Y F) w' yr (giveN nl nr key).2.1->RdB (Zo FD Y F) w' ax (giveN nl nr key).2.2->Fr (Br++F) w0 w'->K (yl,yr,ax) w'): cW 194 [.agg (ndV xl),.agg (ndV xr),ks.v] [.agg qab,.agg qab,.one .slice] w0 K:=by
 refine qqN ?_;unfold qm4 qea qeb;obtain⟨pk,pv,o⟩:=hl.opn (S0:=Br++Zo FD Y F) fun b u Q=>by rcases zD.1 Q with Q|Q;exact d1 b Q u;have h0:=hT.sep b (by simp[u]);simp only[Zo,zD,zG] at Q;rcases Q with (Q|Q|Q)|Q;exact h0.1 Q;exact h0.2 Q;exact d3 b u Q;exact hT.yf b (by simp[u]) Q
 have e0:Ed dbk pb FD D j (Br++F) Br w0 w0 [] (Bl++Y) F M xr nr Br:=⟨⟨.refl _ _,fun b u=>.inl (by simp[u]),fun _ h=>nomatch h⟩,hT,hr,fun _ h=>(nomatch h),fun b u=>.inl u,fun b u=>by simp[u],fun b u Q=>(zD.1 Q).elim (d1 b u) (d2 b u)⟩;have U:∀b∈Br++Zo FD Y F,b∈Zo FD (Br++(Bl++Y)) F:=fun b u=>by simp only[Zo,zD,zG] at u⊢;rcases u with u|(u|u|u)|u<;>simp[u]
 have V:∀b∈Br++F,b∈Br++Zo FD Y F:=fun b u=>by simp only[Zo,zD,zG] at u⊢;rcases u with u|u<;>simp[u]
 have nZ:∀ {w' T x' n' B'},Ed dbk pb FD D j (Br++F) Br w0 w' T (Bl++Y) F M x' n' B'->NewZ (Zo FD (Br++(Bl++Y)) F) w0 (Zo FD (T++(B'++(Bl++Y))) F):=fun e b u=>by simp only[Zo,zD,zG] at u;rcases u with (u|u|u|u|u|u)|u;exact .inl (by simp[u]);exact .inl (by simp[u]);exact (e.sg.own b u).imp (fun h=>U b (V b h)) id;exact (e.bnew b u).imp (fun h=>U b (V b (e.nsub b h))) id;exact .inl (by simp[u]);exact .inl (by simp[u]);exact .inl (by simp[u])
 have G:∀ {w' T x' n' B'},Ed dbk pb FD D j (Br++F) Br w0 w' T (Bl++Y) F M x' n' B'->Opn (Br++Zo FD Y F) (Zo FD (T++(B'++(Bl++Y))) F) w' xl nl pk pv:=fun e=>o.frame e.fr V (fun b u=>U b (V b u)) (fun b u=>.inl u) (nZ e);have ay:=o.rdK U;have az:=o.rdV U;have aa:∀ {w' T x' n' B'},Ed dbk pb FD D j (Br++F) Br w0 w' T (Bl++Y) F M x' n' B'->Fr (Br++Zo FD Y F) w0 w':=fun e=>e.fr.mono fun b u _=>V b u;have ab:∀b∈Zo FD Y F,b∈Br++Zo FD Y F\/w0.heap.size<=b:=fun b u=>.inl (zI _ u);have I:=o.lens;have kl:=o.klen;have vl:=o.vlen;have sk:=sl.keys;have a9:=sr.keys;have a':=sr.vals;have ba:=sr.kids;have aH:wrap .i64 ((xl.2.1.len:Int)-1)=((nl.keys.length-1:Nat):Int):=(by rw[I.keys,wi' _ oJ];omega);have h:=oE [] w0;refine oB h fun r1 w2 _ _ h=>oB h fun r3 w4 _ _ h=>oB h fun r5 w6 _ _ h=>oB h fun r7 w8 _ _ h=>oA h 3 rfl xl.2.1 rfl<|oA h 3 rfl xl.1 rfl ?_;rw[aH];apply qaa<;>intro hc
 ·rw[I.leaf] at hc;have bb:=sl.leaf hc;have hG:giveN nl nr key=({ nl with keys:=nl.keys.take (nl.keys.length-1),vals:=nl.vals.take (nl.keys.length-1) },{ nr with keys:=nl.keys.getD (nl.keys.length-1) []::nr.keys,vals:=nl.vals.getD (nl.keys.length-1) []::nr.vals },nl.keys.getD (nl.keys.length-1) []):=(by unfold giveN;rw[if_pos hc]);have hi:nl.keys.length-1<pk.length:=oJ;have J:nl.keys.length-1<pv.length:=oJ;rw[hG,o.keyAt hi,o.valAt J] at kk;have R:IsB pk[nl.keys.length-1].2:=(by rw[<- o.keyAt hi];exact qa8 o.nb.1 _);have ar:IsB pv[nl.keys.length-1].2:=(by rw[<- o.valAt J];exact qa8 o.nb.2.1 _);refine⟨?a1,?a2,?a3⟩;case' a1=>
   have h:=oF h;refine oA h 2 rfl xr.2.1 rfl<|oA h 3 rfl xl.2.1 rfl<|Rds.getS ((o.rk).frame0 h.fr) (nl.keys.length-1) rfl hi fun ad A=>oA h 2 rfl xr.2.2.1 rfl<|oA h 3 rfl xl.2.2.1 rfl<|Rds.getS ((o.rv).frame0 h.fr) (nl.keys.length-1) rfl J fun aA O=>oB h fun ae af _ _ h=>?_;have e:=e0.now h;refine qaG (O _ _ (G e).rv) (h.cell 4 rfl rfl) (h.cell 3 rfl rfl) (h.cell 3 rfl rfl)<|e.insK h (i:=0) (yW _) rfl oJ 0 rfl ((G e).ek _ (zW hi)) R fun y B1 ag e h _=>qap (O _ _ (G e).rv) (h.cell 4 rfl rfl) (h.cell 3 rfl rfl)<|oB h fun ah ai _ _ h=>?_;have e:=e.now h;refine qaG (h.cell 4 rfl rfl) (A _ _ (G e).rk) (h.cell 5 rfl rfl) (h.cell 4 rfl rfl)<|e.insV h (i:=0) (yW _) rfl oN 0 rfl ((G e).ev _ (zW J)) ar fun z B2 aj e h _=>?_
  case' a2=>
   have h:=oF h;refine oA h 2 rfl xr.2.1 rfl<|oA h 3 rfl xl.2.1 rfl<|Rds.getS ((o.rk).frame0 h.fr) (nl.keys.length-1) rfl hi fun ad A=>oA h 2 rfl xr.2.2.1 rfl<|oA h 3 rfl xl.2.2.1 rfl<|Rds.getS ((o.rv).frame0 h.fr) (nl.keys.length-1) rfl J fun aA O=>oB h fun ae af _ _ h=>qaG (O _ _ (G (e0.now h)).rv) (h.cell 4 rfl rfl) (h.cell 3 rfl rfl) (h.cell 3 rfl rfl)<|oB h fun ah ai _ _ h=>?_;have e:=e0.now h;refine qaG (h.cell 4 rfl rfl) (A _ _ (G e).rk) (h.cell 5 rfl rfl) (h.cell 4 rfl rfl)<|e.insK h (i:=0) (yW _) rfl oJ 1 rfl ((G e).ek _ (zW hi)) R fun y B1 ag e h _=>qap (O _ _ (G e).rv) (h.cell 5 rfl rfl) (h.cell 4 rfl rfl)<|e.insV h (i:=0) (yW _) rfl oN 0 rfl ((G e).ev _ (zW J)) ar fun z B2 aj e h _=>?_
  case' a3=>
   have h:=oF h;refine oA h 2 rfl xr.2.1 rfl<|oA h 3 rfl xl.2.1 rfl<|Rds.getS ((o.rk).frame0 h.fr) (nl.keys.length-1) rfl hi fun ad A=>oA h 2 rfl xr.2.2.1 rfl<|oA h 3 rfl xl.2.2.1 rfl<|Rds.getS ((o.rv).frame0 h.fr) (nl.keys.length-1) rfl J fun aA O=>oB h fun ae af _ _ h=>qaG (h.cell 3 rfl rfl) (A _ _ (G (e0.now h)).rk) (h.cell 4 rfl rfl) (h.cell 3 rfl rfl)<|oB h fun ah ai _ _ h=>?_;have e:=e0.now h;refine qaG (O _ _ (G e).rv) (h.cell 5 rfl rfl) (h.cell 4 rfl rfl) (h.cell 4 rfl rfl)<|e.insK h (i:=0) (yW _) rfl oJ 0 rfl ((G e).ek _ (zW hi)) R fun y B1 ag e h _=>qap (O _ _ (G e).rv) (h.cell 5 rfl rfl) (h.cell 4 rfl rfl)<|e.insV h (i:=0) (yW _) rfl oN 1 rfl ((G e).ev _ (zW J)) ar fun z B2 aj e h _=>?_
  all_goals
   refine oD h 4 rfl (ndV (xr.1,y,xr.2.2.1,xr.2.2.2)) fun aJ h _=>oD h 4 rfl (ndV (xr.1,y,z,xr.2.2.2)) fun aK h _=>?_;have h:=oF h;refine oA h 5 rfl xl.2.1 rfl<|RdK.upto ay (nl.keys.length-1) rfl oJ fun C ak=>oA h 5 rfl xl.2.2.1 rfl<|RdK.upto az (nl.keys.length-1) rfl oJ fun E al=>oD h 5 rfl (ndV (xl.1,C,xl.2.2.1,xl.2.2.2)) fun aL h _=>oD h 5 rfl (ndV (xl.1,C,E,xl.2.2.2)) fun aM h _=>?_;have h:=oF h;refine oC h 5 rfl (xl.1,C,E,xl.2.2.2) rfl<|oC h 4 rfl (xr.1,y,z,xr.2.2.2) rfl<|oA h 4 rfl y rfl ?_;have e:=e.now h;have h:=qao h (.refl _);obtain⟨q0,qN,⟨qk,an,aB⟩,q4,q5⟩:=e.nodeR;have au:0<qk.length:=by
    have:=congrArg List.length aB
    dsimp only at this;rw[qg8,zK,yH] at this;omega
   have aN:qk[0].2=pk[nl.keys.length-1].2:=(by rw[<- qdU au,aB];dsimp only;rw[qg8];rfl);refine Rds.getS an.1 0 rfl au fun bc aC=>oD h 3 rfl (ndV (xl.1,C,E,xl.2.2.2)) fun aO h _=>qap (aC [] _ (an.1.frame (h.fr.mono fun b u _=>zoT u) fun _ h=>nomatch h)) (h.cell 4 rfl rfl) (h.cells 4 rfl rfl)<|oD h 2 rfl (ndV (xr.1,y,z,xr.2.2.2)) fun av h _=>qan (aC [] _ (an.1.frame (h.fr.mono fun b u _=>zoT u) fun _ h=>nomatch h)) (h.cell 4 rfl rfl)<|oC h 3 rfl (xl.1,C,E,xl.2.2.2) rfl<|oC h 2 rfl (xr.1,y,z,xr.2.2.2) rfl ?_;have ao:=qaM (an.2 _ (zW au)) h;rw[aN] at ao;have e:=e.now h;have hR:=e.nodeR.weak (S':=Zo FD Y F) fun b u=>.inl (qjX b u);rw[qg8,qg8] at hR;exact kk (xl.1,C,E,xl.2.2.2) (xr.1,y,z,xr.2.2.2) _ av (e.tw'.weakY fun b u=>by simp[u]) ⟨I.leaf,⟨fun a ha=>o.nb.1 a (yU ha),fun a ha=>o.nb.2.1 a (yU ha),o.nb.2.2⟩,⟨_,ak.frame (aa e) ab,by rw[qcY,o.keys]⟩,⟨_,al.frame (aa e) ab,by rw[qcY,o.vals]⟩,o.ri.frame (aa e) ab⟩
    hR (ao.frame (.refl _ _) fun b u=>.inl (qjX b u)) e.fr
 ·rw[I.leaf] at hc;have aP:¬nl.leaf=true:=(by rw[hc];decide);have il:=sl.inner hc;have hG:giveN nl nr key=({ nl with keys:=nl.keys.take (nl.keys.length-1),kids:=nl.kids.take (nl.keys.length-1+1) },{ nr with keys:=key::nr.keys,kids:=nl.kids.getD (nl.keys.length-1+1) 0::nr.kids },nl.keys.getD (nl.keys.length-1) []):=(by unfold giveN;rw[if_neg aP]);have hi:nl.keys.length-1<pk.length:=oJ;have am:nl.keys.length-1+1<nl.kids.length:=oJ;rw[hG,o.keyAt hi,qd5 am] at kk;have R:U32 nl.kids[nl.keys.length-1+1]:=o.nb.2.2 _ (zW am);have aQ:wrap .i64 (((nl.keys.length-1:Nat):Int)+1)=((nl.keys.length-1+1:Nat):Int):=qbD oJ;rw[aQ];have kw:∀ {w' T x' n' B'},Ed dbk pb FD D j (Br++F) Br w0 w' T (Bl++Y) F M x' n' B'->RdB (Zo FD (T++(B'++(Bl++Y))) F) w' ks key:=fun e=>hk.frame (e.fr.mono fun b u _=>U b (V b u)) (nZ e);refine oA h 3 rfl xl.2.1 rfl<|Rds.getS ((o.rk).frame0 h.fr) (nl.keys.length-1) rfl hi fun aY aZ=>⟨?b1,?b2,?b3⟩;case' b1=>
   have h:=oF h;refine oA h 2 rfl xr.2.1 rfl<|oA h 2 rfl xr.2.2.2 rfl<|oA h 3 rfl xl.2.2.2 rfl<|Rds.getU ((o.ri).frame0 h.fr) (nl.keys.length-1+1) rfl am fun ad A=>oB h fun ae af _ _ h=>?_;have e:=e0.now h;refine qaG (A _ _ (G e).ri) (h.cell 4 rfl rfl) (h.cell 3 rfl rfl) (h.cell 3 rfl rfl)<|e.insK h (i:=0) (yW _) rfl oJ 0 rfl (kw e) ap fun y B1 ag e h _=>qap (A _ _ (G e).ri) (h.cell 4 rfl rfl) (h.cell 3 rfl rfl)<|oB h fun ah ai _ _ h=>?_;have e:=e.now h;refine qan (h.cell 4 rfl rfl) (h.cell 4 rfl rfl)<|e.insI h (i:=0) (yW _) rfl oN 0 rfl R fun z B2 aj e h _=>?_
  case' b2=>
   have h:=oF h;refine oA h 2 rfl xr.2.1 rfl<|oA h 2 rfl xr.2.2.2 rfl<|oA h 3 rfl xl.2.2.2 rfl<|Rds.getU ((o.ri).frame0 h.fr) (nl.keys.length-1+1) rfl am fun ad A=>oB h fun ae af _ _ h=>qaG (A _ _ (G (e0.now h)).ri) (h.cell 4 rfl rfl) (h.cell 3 rfl rfl) (h.cell 3 rfl rfl)<|oB h fun ah ai _ _ h=>?_;have e:=e0.now h;refine qan (h.cell 4 rfl rfl) (h.cell 4 rfl rfl)<|e.insK h (i:=0) (yW _) rfl oJ 1 rfl (kw e) ap fun y B1 ag e h _=>qap (A _ _ (G e).ri) (h.cell 5 rfl rfl) (h.cell 4 rfl rfl)<|e.insI h (i:=0) (yW _) rfl oN 0 rfl R fun z B2 aj e h _=>?_
  case' b3=>
   have h:=oF h;refine oA h 2 rfl xr.2.1 rfl<|oA h 2 rfl xr.2.2.2 rfl<|oA h 3 rfl xl.2.2.2 rfl<|Rds.getU ((o.ri).frame0 h.fr) (nl.keys.length-1+1) rfl am fun ad A=>oB h fun ae af _ _ h=>qan (h.cell 3 rfl rfl) (h.cell 3 rfl rfl)<|oB h fun ah ai _ _ h=>?_;have e:=e0.now h;refine qaG (A _ _ (G e).ri) (h.cell 5 rfl rfl) (h.cell 4 rfl rfl) (h.cell 4 rfl rfl)<|e.insK h (i:=0) (yW _) rfl oJ 0 rfl (kw e) ap fun y B1 ag e h _=>qap (A _ _ (G e).ri) (h.cell 5 rfl rfl) (h.cell 4 rfl rfl)<|e.insI h (i:=0) (yW _) rfl oN 1 rfl R fun z B2 aj e h _=>?_
  all_goals
   refine oD h 4 rfl (ndV (xr.1,y,xr.2.2.1,xr.2.2.2)) fun aJ h _=>oD h 4 rfl (ndV (xr.1,y,xr.2.2.1,z)) fun aK h _=>?_;have h:=oF h;refine oA h 5 rfl xl.2.1 rfl<|RdK.upto ay (nl.keys.length-1) rfl oJ fun C ak=>oA h 5 rfl xl.2.2.2 rfl<|Rds.upto1 o.ri (nl.keys.length-1+1) rfl oJ fun E al=>oD h 5 rfl (ndV (xl.1,C,xl.2.2.1,xl.2.2.2)) fun aL h _=>oD h 5 rfl (ndV (xl.1,C,xl.2.2.1,E)) fun aM h _=>?_;have h:=oF h;refine oC h 5 rfl (xl.1,C,xl.2.2.1,E) rfl<|oC h 4 rfl (xr.1,y,xr.2.2.1,z) rfl<|oD h 3 rfl (ndV (xl.1,C,xl.2.2.1,E)) fun aO h _=>qaj (h.cells 4 rfl rfl)<|oD h 2 rfl (ndV (xr.1,y,xr.2.2.1,z)) fun av h _=>oC h 3 rfl (xl.1,C,xl.2.2.1,E) rfl<|oC h 2 rfl (xr.1,y,xr.2.2.1,z) rfl ?_;have e:=e.now h;have hR:=e.nodeR.weak (S':=Zo FD Y F) fun b u=>.inl (qjX b u);rw[qg8,qg8] at hR;exact kk (xl.1,C,xl.2.2.1,E) (xr.1,y,xr.2.2.1,z) _ av (e.tw'.weakY fun b u=>by simp[u]) ⟨I.leaf,⟨fun a ha=>o.nb.1 a (yU ha),o.nb.2.1,fun a ha=>o.nb.2.2 a (yU ha)⟩,⟨_,ak.frame (aa e) ab,by rw[qcY,o.keys]⟩,⟨_,az.frame (aa e) ab,o.vals⟩,al.frame (aa e) ab⟩
    hR (((G e).ek _ (zW hi)).frame (.refl _ _) fun b u=>.inl (by simp only[Zo,zD,zG] at u⊢;rcases u with (u|u|u)|u<;>simp[u])) e.fr
end
end
section
section
variable {dbk pb j:Nat} {FD Y F Bl Br:List Nat} {D:DiskM} {w0:World} {M:PgM} {xl xr:NdC} {nl nr:NodeM} {ks:Sl} {key:Key}
def qwg{K:NdC×NdC×Sl->WP}(hT:TW dbk pb FD D j w0 (Bl++(Br++Y)) F M)(hl:NodeB (Zo FD (Bl++(Br++Y)) F) w0 xl nl Bl)(hr:NodeB (Zo FD (Bl++(Br++Y)) F) w0 xr nr Br)(d1:∀b∈Bl,b∉Br)(d2:∀b∈Bl,b∉Y)(d3:∀b∈Br,b∉Y)(hk:RdB (Zo FD (Bl++(Br++Y)) F) w0 ks key)(an:IsB key)(av:nl.leaf=nr.leaf)(h1:1<=nr.keys.length)(h2:nr.leaf=true->2<=nr.keys.length)(sl:ShapeN nl)(sr:ShapeN nr)(kk:∀yl yr aw w',TW dbk pb FD D j w' Y F M->NodeR (Zo FD Y F) w' yl (takeN nl nr key).1->NodeR (Zo FD Y F) w' yr (takeN nl nr key).2.1->RdB (Zo FD Y F) w' aw (takeN nl nr key).2.2->Fr (Bl++F) w0 w'->K (yl,yr,aw) w'): cW 195 [.agg (ndV xl),.agg (ndV xr),ks.v] [.agg qab,.agg qab,.one .slice] w0 K:=by
 refine qqO ?_;unfold qm5 qec qed;obtain⟨pk,pv,o⟩:=hr.opn (S0:=Bl++Zo FD Y F) fun b u R=>by rcases zD.1 R with R|R;exact d1 b R u;have h0:=hT.sep b (by simp[u]);simp only[Zo,zD,zG] at R;rcases R with (R|R|R)|R;exact h0.1 R;exact h0.2 R;exact d3 b u R;exact hT.yf b (by simp[u]) R
 have e0:Ed dbk pb FD D j (Bl++F) Bl w0 w0 [] (Br++Y) F M xl nl Bl:=⟨⟨.refl _ _,fun b u=>.inl (by simp[u]),fun _ h=>nomatch h⟩,hT,hl,fun _ h=>(nomatch h),fun b u=>.inl u,fun b u=>by simp[u],fun b u R=>(zD.1 R).elim (d1 b u) (d2 b u)⟩;have V:∀b∈Bl++Zo FD Y F,b∈Zo FD (Bl++(Br++Y)) F:=fun b u=>by simp only[Zo,zD,zG] at u⊢;rcases u with u|(u|u|u)|u<;>simp[u]
 have aa:∀b∈Bl++F,b∈Bl++Zo FD Y F:=fun b u=>by simp only[Zo,zD,zG] at u⊢;rcases u with u|u<;>simp[u]
 have nZ:∀ {w' T x' n' B'},Ed dbk pb FD D j (Bl++F) Bl w0 w' T (Br++Y) F M x' n' B'->NewZ (Zo FD (Bl++(Br++Y)) F) w0 (Zo FD (T++(B'++(Br++Y))) F):=fun e b u=>by simp only[Zo,zD,zG] at u;rcases u with (u|u|u|u|u|u)|u;exact .inl (by simp[u]);exact .inl (by simp[u]);exact (e.sg.own b u).imp (fun h=>V b (aa b h)) id;exact (e.bnew b u).imp (fun h=>V b (aa b (e.nsub b h))) id;exact .inl (by simp[u]);exact .inl (by simp[u]);exact .inl (by simp[u])
 have E:∀ {w' T x' n' B'},Ed dbk pb FD D j (Bl++F) Bl w0 w' T (Br++Y) F M x' n' B'->Opn (Bl++Zo FD Y F) (Zo FD (T++(B'++(Br++Y))) F) w' xr nr pk pv:=fun e=>o.frame e.fr aa (fun b u=>V b (aa b u)) (fun b u=>.inl u) (nZ e);have ax:=o.rdK V;have ay:=o.rdV V;have I:∀ {w' T x' n' B'},Ed dbk pb FD D j (Bl++F) Bl w0 w' T (Br++Y) F M x' n' B'->Fr (Bl++Zo FD Y F) w0 w':=fun e=>e.fr.mono fun b u _=>aa b u;have ab:∀b∈Zo FD Y F,b∈Bl++Zo FD Y F\/w0.heap.size<=b:=fun b u=>.inl (zI _ u);have ai:=o.lens;have kl:=o.klen;have vl:=o.vlen;have sk:=sr.keys;have bc:=sl.keys;have bd:=sl.vals;have bf:=sl.kids;have h:=oE [] w0;refine oB h fun r1 w2 _ _ h=>oB h fun r3 w4 _ _ h=>oB h fun r5 w6 _ _ h=>oB h fun r7 w8 _ _ h=>oA h 3 rfl xl.1 rfl ?_;apply qaa<;>intro hc
 ·rw[hl.1] at hc;have az:nr.leaf=true:=(by rw[<- av];exact hc);have h2:=h2 az;have bg:=sr.leaf az;have hG:takeN nl nr key=({ nl with keys:=nl.keys++[nr.keys.getD 0 []],vals:=nl.vals++[nr.vals.getD 0 []] },{ nr with keys:=nr.keys.drop 1,vals:=nr.vals.drop 1 },(nr.keys.drop 1).getD 0 []):=(by unfold takeN;rw[if_pos hc]);have hi:0<pk.length:=oJ;have J:0<pv.length:=oJ;have ap:0<(pk.drop 1).length:=(by rw[yB];omega);have aQ:(nr.keys.drop 1).getD 0 []=(pk.drop 1)[0].2:=(by rw[<- o.keys,<- qch,qdU ap]);rw[hG,o.keyAt hi,o.valAt J,aQ] at kk;have U:IsB pk[0].2:=(by rw[<- o.keyAt hi];exact qa8 o.nb.1 _);have aq:IsB pv[0].2:=(by rw[<- o.valAt J];exact qa8 o.nb.2.1 _);refine⟨?a1,?a2,?a3⟩;case' a1=>
   have h:=oF h;refine oA h 3 rfl xl.2.1 rfl<|oA h 2 rfl xr.2.1 rfl<|Rds.getS ((o.rk).frame0 h.fr) 0 rfl hi fun aA ad=>oA h 3 rfl xl.2.2.1 rfl<|oA h 2 rfl xr.2.2.1 rfl<|Rds.getS ((o.rv).frame0 h.fr) 0 rfl J fun aB O=>oB h fun aC aD _ _ h=>?_;have e:=e0.now h;refine qaG (O _ _ (E e).rv) (h.cell 3 rfl rfl) (h.cell 4 rfl rfl) (h.cell 4 rfl rfl)<|e.appK h oJ 0 rfl ((E e).ek _ (zW hi)) U fun y B1 aE e h _=>qap (O _ _ (E e).rv) (h.cell 3 rfl rfl) (h.cell 4 rfl rfl)<|oB h fun aF aG _ _ h=>?_;have e:=e.now h;refine qaG (h.cell 5 rfl rfl) (ad _ _ (E e).rk) (h.cell 4 rfl rfl) (h.cell 5 rfl rfl)<|e.appV h oN 0 rfl ((E e).ev _ (zW J)) aq fun z B2 aH e h _=>?_
  case' a2=>
   have h:=oF h;refine oA h 3 rfl xl.2.1 rfl<|oA h 2 rfl xr.2.1 rfl<|Rds.getS ((o.rk).frame0 h.fr) 0 rfl hi fun aA ad=>oA h 3 rfl xl.2.2.1 rfl<|oA h 2 rfl xr.2.2.1 rfl<|Rds.getS ((o.rv).frame0 h.fr) 0 rfl J fun aB O=>oB h fun aC aD _ _ h=>qaG (O _ _ (E (e0.now h)).rv) (h.cell 3 rfl rfl) (h.cell 4 rfl rfl) (h.cell 4 rfl rfl)<|oB h fun aF aG _ _ h=>?_;have e:=e0.now h;refine qaG (h.cell 5 rfl rfl) (ad _ _ (E e).rk) (h.cell 4 rfl rfl) (h.cell 5 rfl rfl)<|e.appK h oJ 1 rfl ((E e).ek _ (zW hi)) U fun y B1 aE e h _=>qap (O _ _ (E e).rv) (h.cell 4 rfl rfl) (h.cell 5 rfl rfl)<|e.appV h oN 0 rfl ((E e).ev _ (zW J)) aq fun z B2 aH e h _=>?_
  case' a3=>
   have h:=oF h;refine oA h 3 rfl xl.2.1 rfl<|oA h 2 rfl xr.2.1 rfl<|Rds.getS ((o.rk).frame0 h.fr) 0 rfl hi fun aA ad=>oA h 3 rfl xl.2.2.1 rfl<|oA h 2 rfl xr.2.2.1 rfl<|Rds.getS ((o.rv).frame0 h.fr) 0 rfl J fun aB O=>oB h fun aC aD _ _ h=>qaG (h.cell 4 rfl rfl) (ad _ _ (E (e0.now h)).rk) (h.cell 3 rfl rfl) (h.cell 4 rfl rfl)<|oB h fun aF aG _ _ h=>?_;have e:=e0.now h;refine qaG (O _ _ (E e).rv) (h.cell 4 rfl rfl) (h.cell 5 rfl rfl) (h.cell 5 rfl rfl)<|e.appK h oJ 0 rfl ((E e).ek _ (zW hi)) U fun y B1 aE e h _=>qap (O _ _ (E e).rv) (h.cell 4 rfl rfl) (h.cell 5 rfl rfl)<|e.appV h oN 1 rfl ((E e).ev _ (zW J)) aq fun z B2 aH e h _=>?_
  all_goals
   refine oD h 5 rfl (ndV (xl.1,y,xl.2.2.1,xl.2.2.2)) fun ah h _=>oD h 5 rfl (ndV (xl.1,y,z,xl.2.2.2)) fun aR h _=>?_;have h:=oF h;refine oA h 4 rfl xr.2.1 rfl<|RdK.from ax 1 rfl oJ fun A G=>oA h 4 rfl xr.2.2.1 rfl<|RdK.from ay 1 rfl oJ fun C ae=>oD h 4 rfl (ndV (xr.1,A,xr.2.2.1,xr.2.2.2)) fun aS h _=>oD h 4 rfl (ndV (xr.1,A,C,xr.2.2.2)) fun aT h _=>?_;have h:=oF h;refine oC h 5 rfl (xl.1,y,z,xl.2.2.2) rfl<|oC h 4 rfl (xr.1,A,C,xr.2.2.2) rfl<|oA h 4 rfl A rfl<|Rds.getS (G.frame (I (e.now h)) fun b u=>.inl u).1 0 rfl ap fun bh aI=>oD h 3 rfl (ndV (xl.1,y,z,xl.2.2.2)) fun aU h _=>qap (aI _ _ (G.frame (I (e.now h)) fun b u=>.inl u).1) (h.cell 4 rfl rfl) (h.cells 4 rfl rfl)<|oD h 2 rfl (ndV (xr.1,A,C,xr.2.2.2)) fun ar h _=>qan (aI _ _ (G.frame (I (e.now h)) fun b u=>.inl u).1) (h.cell 4 rfl rfl)<|oC h 3 rfl (xl.1,y,z,xl.2.2.2) rfl<|oC h 2 rfl (xr.1,A,C,xr.2.2.2) rfl ?_;have e:=e.now h;have hR:=e.nodeR.weak (S':=Zo FD Y F) fun b u=>.inl (qjX b u);have af:=G.frame (I e) ab;exact kk (xl.1,y,z,xl.2.2.2) (xr.1,A,C,xr.2.2.2) _ ar (e.tw'.weakY fun b u=>by simp[u]) hR ⟨ai.leaf,⟨fun a ha=>o.nb.1 a (yT ha),fun a ha=>o.nb.2.1 a (yT ha),o.nb.2.2⟩,⟨_,af,by rw[qch,o.keys]⟩,⟨_,ae.frame (I e) ab,by rw[qch,o.vals]⟩,o.ri.frame (I e) ab⟩
    (af.2 _ (zW ap)) e.fr
 ·rw[hl.1] at hc;have aW:¬nl.leaf=true:=(by rw[hc];decide);have il:=sr.inner (by rw[<- av];exact hc);have hG:takeN nl nr key=({ nl with keys:=nl.keys++[key],kids:=nl.kids++[nr.kids.getD 0 0] },{ nr with keys:=nr.keys.drop 1,kids:=nr.kids.drop 1 },nr.keys.getD 0 []):=(by unfold takeN;rw[if_neg aW]);have hi:0<pk.length:=oJ;have ag:0<nr.kids.length:=oJ;rw[hG,o.keyAt hi,qd5 ag] at kk;have U:U32 nr.kids[0]:=o.nb.2.2 _ (zW ag);have kw:∀ {w' T x' n' B'},Ed dbk pb FD D j (Bl++F) Bl w0 w' T (Br++Y) F M x' n' B'->RdB (Zo FD (T++(B'++(Br++Y))) F) w' ks key:=fun e=>hk.frame (e.fr.mono fun b u _=>V b (aa b u)) (nZ e);refine oA h 2 rfl xr.2.1 rfl<|Rds.getS ((o.rk).frame0 h.fr) 0 rfl hi fun a7 a8=>⟨?b1,?b2,?b3⟩;case' b1=>
   have h:=oF h;refine oA h 3 rfl xl.2.1 rfl<|oA h 3 rfl xl.2.2.2 rfl<|oA h 2 rfl xr.2.2.2 rfl<|Rds.getU ((o.ri).frame0 h.fr) 0 rfl ag fun aJ Q=>oB h fun aj ak _ _ h=>?_;have e:=e0.now h;refine qaG (Q _ _ (E e).ri) (h.cell 3 rfl rfl) (h.cell 4 rfl rfl) (h.cell 4 rfl rfl)<|e.appK h oJ 0 rfl (kw e) an fun y B1 aK e h _=>qap (Q _ _ (E e).ri) (h.cell 3 rfl rfl) (h.cell 4 rfl rfl)<|oB h fun al am _ _ h=>?_;have e:=e.now h;refine qan (h.cell 5 rfl rfl) (h.cell 5 rfl rfl)<|e.appI h oN 0 rfl U fun z B2 ah e h _=>?_
  case' b2=>
   have h:=oF h;refine oA h 3 rfl xl.2.1 rfl<|oA h 3 rfl xl.2.2.2 rfl<|oA h 2 rfl xr.2.2.2 rfl<|Rds.getU ((o.ri).frame0 h.fr) 0 rfl ag fun aJ Q=>oB h fun aj ak _ _ h=>qaG (Q _ _ (E (e0.now h)).ri) (h.cell 3 rfl rfl) (h.cell 4 rfl rfl) (h.cell 4 rfl rfl)<|oB h fun al am _ _ h=>?_;have e:=e0.now h;refine qan (h.cell 5 rfl rfl) (h.cell 5 rfl rfl)<|e.appK h oJ 1 rfl (kw e) an fun y B1 aK e h _=>qap (Q _ _ (E e).ri) (h.cell 4 rfl rfl) (h.cell 5 rfl rfl)<|e.appI h oN 0 rfl U fun z B2 ah e h _=>?_
  case' b3=>
   have h:=oF h;refine oA h 3 rfl xl.2.1 rfl<|oA h 3 rfl xl.2.2.2 rfl<|oA h 2 rfl xr.2.2.2 rfl<|Rds.getU ((o.ri).frame0 h.fr) 0 rfl ag fun aJ Q=>oB h fun aj ak _ _ h=>qan (h.cell 4 rfl rfl) (h.cell 4 rfl rfl)<|oB h fun al am _ _ h=>?_;have e:=e0.now h;refine qaG (Q _ _ (E e).ri) (h.cell 4 rfl rfl) (h.cell 5 rfl rfl) (h.cell 5 rfl rfl)<|e.appK h oJ 0 rfl (kw e) an fun y B1 aK e h _=>qap (Q _ _ (E e).ri) (h.cell 4 rfl rfl) (h.cell 5 rfl rfl)<|e.appI h oN 1 rfl U fun z B2 ah e h _=>?_
  all_goals
   refine oD h 5 rfl (ndV (xl.1,y,xl.2.2.1,xl.2.2.2)) fun ah h _=>oD h 5 rfl (ndV (xl.1,y,xl.2.2.1,z)) fun aR h _=>?_;have h:=oF h;refine oA h 4 rfl xr.2.1 rfl<|RdK.from ax 1 rfl oJ fun A G=>oA h 4 rfl xr.2.2.2 rfl<|Rds.from1 o.ri 1 rfl oJ fun C ae=>oD h 4 rfl (ndV (xr.1,A,xr.2.2.1,xr.2.2.2)) fun aS h _=>oD h 4 rfl (ndV (xr.1,A,xr.2.2.1,C)) fun aT h _=>?_;have h:=oF h;refine oC h 5 rfl (xl.1,y,xl.2.2.1,z) rfl<|oC h 4 rfl (xr.1,A,xr.2.2.1,C) rfl<|oD h 3 rfl (ndV (xl.1,y,xl.2.2.1,z)) fun aU h _=>qaj (h.cells 4 rfl rfl)<|oD h 2 rfl (ndV (xr.1,A,xr.2.2.1,C)) fun ar h _=>oC h 3 rfl (xl.1,y,xl.2.2.1,z) rfl<|oC h 2 rfl (xr.1,A,xr.2.2.1,C) rfl ?_;have e:=e.now h;have hR:=e.nodeR.weak (S':=Zo FD Y F) fun b u=>.inl (qjX b u);exact kk (xl.1,y,xl.2.2.1,z) (xr.1,A,xr.2.2.1,C) _ ar (e.tw'.weakY fun b u=>by simp[u]) hR ⟨ai.leaf,⟨fun a ha=>o.nb.1 a (yT ha),o.nb.2.1,fun a ha=>o.nb.2.2 a (yT ha)⟩,⟨_,G.frame (I e) ab,by rw[qch,o.keys]⟩,⟨_,ay.frame (I e) ab,o.vals⟩,ae.frame (I e) ab⟩
    (((E e).ek _ (zW hi)).frame (.refl _ _) fun b u=>.inl (by simp only[Zo,zD,zG] at u⊢;rcases u with (u|u|u)|u<;>simp[u])) e.fr
end
end
section
section
variable {dbk pb j:Nat} {FD S S0 S1 N0 Y Y1 F F' T B Bl Br Bn:List Nat} {D:DiskM} {w0 wa w w':World} {M M':PgM} {L:List (Nat×Obj)} {x xl xr:NdC} {n nl nr:NodeM} {k v:Nat} {t:Int}
def qxm(g:Sg S0 w0 wa F T)(u:∀b∈S0,b∈S1):Sg S1 w0 wa F T:=⟨g.tot.mono fun b h _=>u b h,fun b h=>(g.new b h).imp (u b) id,fun b h=>(g.own b h).imp (u b) id⟩
structure Oth (FD F:List Nat) (w:World) (T R:List Nat) (x:NdC) (n:NodeM) (B:List Nat):Prop where
 node:NodeB (Zo FD (T++R) F) w x n B
 sep:∀ b∈T,b∉B
def Oth.now(o:Oth FD F wa T R x n B)(h:Own T wa w L):Oth FD F w (bks L) R x n B:=
 ⟨o.node.frame h.fr (fun b u y=>o.sep b y u) (fun b u=>.inl (by simp[u])) (qna h),fun b u y=>by
  obtain⟨q,A,rfl⟩:=mem_map.1 u;rcases h.own q A with z|z;exact o.sep _ z y
  have:=o.node.lt _ y;omega⟩
def Ed.base(e:Ed dbk pb FD D j S0 N0 w0 w T Y F M x n B)(y:∀b∈S0,b∈Z)(z:∀b∈FD,b∈Z)(A:HG∈Z)(C:∀b∈Y,b∈Z):NewZ Z w0 (Zo FD (T++(B++Y)) F):=fun b u=>by simp only[Zo,zD,zG] at u;rcases u with (u|u|u|u|u)|u;exact .inl (z b u);rw[u];exact .inl A;exact (e.sg.own b u).imp (y b) id;exact (e.bnew b u).imp (fun h=>y b (e.nsub b h)) id;exact .inl (C b u);exact (e.sg.new b u).imp (y b) id
def Ed.other(e:Ed dbk pb FD D j S0 N0 w0 w T Y F M x n B)(R:NodeB Z w0 xl nl Bn)(J:∀b∈Bn,b∉S0)(K:∀b∈S0,b∈Z)(A:∀b∈FD,b∈Z)(C:HG∈Z)(U:∀b∈Y,b∈Z)(y:∀b∈Bn++Y1,b∈Y)(E:∀b∈Bn,b∉Y1)(G:∀b∈Bn,b<w0.heap.size): Ed dbk pb FD D j (Bn++S0) Bn w0 w T Y1 F M xl nl Bn:=by
 have V:=e.base K A C U;have z:∀b∈Zo FD (T++(Bn++Y1)) F,b∈Zo FD (T++(B++Y)) F:=fun b u=>by simp only[Zo,zD,zG] at u⊢;have I:=fun h=>y b h;simp only[zD] at I;rcases u with (u|u|u|u|u)|u;simp[u];simp[u];simp[u];simp[I (.inl u)];simp[I (.inr u)];simp[u]
 refine⟨qxm e.sg fun b u=>zI _ u,e.tw.weakY fun b u=>?_,R.frame e.fr J (fun b u=>.inl (K b u)) fun b u=>V b (z b u),fun b u O=>?_,fun b u=>.inl u,fun b u=>zH _ u,E⟩;rcases zD.1 u with u|u;simp[u];exact zI _ (zI _ (y b u));rcases e.sg.own b u with Q|Q;exact J b O Q
 have:=G b O;omega
def qx7:∀b∈Bn++(Br++Y),b∈Zo FD (Bl++(Bn++(Br++Y))) F:=fun b u=>by simp only[Zo,zD,zG] at u⊢;rcases u with h|h|h<;>simp[h]
def qxH:∀b∈Bn++Y,b∈Bn++(Br++Y):=fun b u=>by simp only[zD] at u⊢;rcases u with h|h<;>simp[h]
def qxI:∀b∈Zo FD (T++(Bn++Y)) F,b∈Zo FD (T++(Bn++(Br++Y))) F:=fun b u=>by simp only[Zo,zD,zG] at u⊢;rcases u with (h|h|h|h|h)|h<;>simp[h]
def qvM{K:NdC×Int->WP}(hT:TW dbk pb FD D j w0 (Bl++(Bn++(Br++Y))) F M)(hl:NodeB (Zo FD (Bl++(Bn++(Br++Y))) F) w0 xl nl Bl)(hn:NodeB (Zo FD (Bl++(Bn++(Br++Y))) F) w0 x n Bn)(hr:NodeB (Zo FD (Bl++(Bn++(Br++Y))) F) w0 xr nr Br)(d1:∀b∈Bl,b∉Bn)(d2:∀b∈Bl,b∉Br)(d3:∀b∈Bl,b∉Y)(d4:∀b∈Bn,b∉Br)(d5:∀b∈Bn,b∉Y)(sl:ShapeN nl)(sr:ShapeN nr)(sn:ShapeN n)(hi:i<n.keys.length)(ax:n.leaf=false)(J:∀yn B' F' w',TW dbk pb FD D j w' (B'++Y) F' (joinM k v M n i nl nr).2->NodeB (Zo FD (B'++Y) F') w' yn (joinM k v M n i nl nr).1.1 B'->Fr (Bn++(Bl++F)) w0 w'->(∀b∈B',b∈Bn\/w0.heap.size<=b)->(∀b∈F',b∈Bn++(Bl++F)\/w0.heap.size<=b)->K (yn,(joinM k v M n i nl nr).1.2) w'): cW 193 [.agg (wkV (wkX k v pb t)),.agg (ndV x),.i i,.agg (ndV xl),.agg (ndV xr)] [.agg qab,.one .i] w0 K:=by
 refine qkv ?_;unfold qgD;have e0:Ed dbk pb FD D j (Bl++F) Bl w0 w0 [] (Bn++(Br++Y)) F M xl nl Bl:=⟨⟨.refl _ _,fun b u=>.inl (by simp[u]),fun _ h=>nomatch h⟩,hT,hl,fun _ h=>(nomatch h),fun b u=>.inl u,fun b u=>by simp[u],fun b u E=>by simp only[zD] at E;rcases E with E|E|E;exact d1 b u E;exact d2 b u E;exact d3 b u E⟩;have hF:∀ {Bx:List Nat},(∀b∈Bx,b∈Bn\/b∈Br)->(∀b∈Bx,b∉Bl)->∀b∈Bx,b∉Bl++F:=fun h1 h2 b u E=>(zD.1 E).elim (h2 b u) fun E=>hT.yf b (by rcases h1 b u with h|h<;>simp[h]) E;have dn:=hF (Bx:=Bn) (fun b u=>.inl u) fun b u E=>d1 b E u;obtain⟨nk,nv,on⟩:=hn.opn (S0:=Bl++F) dn;obtain⟨rk,rv,C⟩:=hr.opn (S0:=Bl++F) (hF (fun b u=>.inr u) fun b u E=>d2 b E u);have V:∀b∈Bl++F,b∈Zo FD (Bl++(Bn++(Br++Y))) F:=fun b u=>by rcases zD.1 u with u|u<;>simp[u]
 have nZ:∀ {w' T x' n' B'},Ed dbk pb FD D j (Bl++F) Bl w0 w' T (Bn++(Br++Y)) F M x' n' B'->NewZ (Zo FD (Bl++(Bn++(Br++Y))) F) w0 (Zo FD (T++(B'++(Bn++(Br++Y)))) F):=fun e=>e.base V (fun b u=>by simp[u]) oL fun b u=>by simp only[Zo,zD,zG] at u⊢;rcases u with h|h|h<;>simp[h]
 have nw:∀ {w' T x' n' B'},Ed dbk pb FD D j (Bl++F) Bl w0 w' T (Bn++(Br++Y)) F M x' n' B'->Opn (Bl++F) (Zo FD (T++(B'++(Bn++(Br++Y)))) F) w' x n nk nv:=fun e=>on.frame e.fr (fun b u=>u) V (fun b u=>.inl u) (nZ e);have Q:∀ {w' T x' n' B'},Ed dbk pb FD D j (Bl++F) Bl w0 w' T (Bn++(Br++Y)) F M x' n' B'->Opn (Bl++F) (Zo FD (T++(B'++(Bn++(Br++Y)))) F) w' xr nr rk rv:=fun e=>C.frame e.fr (fun b u=>u) V (fun b u=>.inl u) (nZ e);have aa:i<nk.length:=(by rw[on.klen];exact hi);have a0:=sn.inner ax;have ab:i<n.kids.length:=oJ;have ad:i+1<n.kids.length:=oJ;have z1:=sl.keys;have z2:=sl.vals;have z3:=sl.kids;have z4:=sr.keys;have z5:=sr.vals;have z6:=sr.kids;have z7:=sn.keys;have z8:=sn.kids;have a1:=C.klen;have a2:=C.vlen;have h:=oE [] w0;refine oB h fun r1 w2 _ _ h=>oB h fun r3 w4 _ _ h=>oB h fun r5 w6 _ _ h=>oB h fun r7 w8 _ _ h=>oB h fun r9 a3 _ _ h=>qaf (fun _ w'=>∃G B',Own [r9,r7,r5,r3,r1] w' w' [(r9,.cells (ndV zeroX) ND (0,0)),(r7,.cells (ndV xr) ND (0,0)),(r5,.cells (ndV (xl.1,G,xl.2.2)) ND (0,0)),(r3,.cells (ndV x) ND (0,0)),(r1,.cells (wkV (wkX k v pb t)) WK (0,0))]/\
  Ed dbk pb FD D j (Bl++F) Bl w0 w' [r9,r7,r5,r3,r1] (Bn++(Br++Y)) F M (xl.1,G,xl.2.2) { nl with keys:=if nl.leaf then nl.keys else nl.keys++[n.keys.getD i []] } B') ?_ ?_
 refine oA h 2 rfl xl.1 rfl ?_;apply qaa<;>intro z;have z:nl.leaf=false:=(by rw[hl.1,zT] at z;exact z);rw[if_neg (show ¬nl.leaf=true by rw[z];decide),on.keyAt aa];have h:=oF h;refine oA h 2 rfl xl.2.1 rfl<|oA h 3 rfl x.2.1 rfl<|Rds.get (on.rk.frame0 h.fr) i rfl (x:=nk[i].1) (by rw[zQ,zA aa];rfl) (y:=nk[i].1) rfl<|oB h fun a4 a5 _ _ h=>qaj (h.cell 3 rfl rfl) ?_;have e:=e0.now h;exact e.appK h oJ 0 rfl ((nw e).ek _ (zW aa)) (by rw[<- on.keyAt aa];exact qa8 on.nb.1 _) fun G B1 a6 e h _=>oD h 3 rfl (ndV (xl.1,G,xl.2.2)) fun a7 h _=>⟨G,B1,qao h (.cons _ (.refl _)),(e.now h).sub oL⟩;have z:nl.leaf=true:=(by rw[hl.1,yD] at z;exact z);rw[if_pos z];exact⟨xl.2.1,Bl,qao h (.refl _),e0.now h⟩;rintro _ a8 ⟨G,B1,h,e⟩;have e:=e.now h;have h:=qao h (.refl _);refine oA h 2 rfl G rfl<|oA h 1 rfl xr.2.1 rfl ?_;have aP:(if nl.leaf then nl.keys else nl.keys++[n.keys.getD i []]).length<=2001:=by split;omega;rw[zF,xI];omega
 refine e.appAllK h oN (Q e).rk (Q e).ek (by rw[C.keys];exact C.nb.1) fun R B2 a9 e h _=>?_;rw[C.keys] at e;refine oD h 2 rfl (ndV (xl.1,R,xl.2.2.1,xl.2.2.2)) fun a' h _=>oA h 2 rfl xl.2.2.1 rfl<|oA h 1 rfl xr.2.2.1 rfl ?_;have e:=e.now h;refine e.appAllV h oN (Q e).rv (Q e).ev (by rw[C.vals];exact C.nb.2.1) fun ac B3 ba e h _=>?_;rw[C.vals] at e;refine oD h 2 rfl (ndV (xl.1,R,ac,xl.2.2.2)) fun bb h _=>oA h 2 rfl xl.2.2.2 rfl<|oA h 1 rfl xr.2.2.2 rfl ?_;have e:=e.now h;refine e.appAllI h oN (Q e).ri C.nb.2.2 fun ae B4 bc e h _=>oD h 2 rfl (ndV (xl.1,R,ac,ae)) fun bd h _=>?_;have h:=oF h;have e:=e.now h;have h:=qao h (.refl _);refine oC h 4 rfl (wkX k v pb t) rfl<|oA h 3 rfl x.2.2.2 rfl<|Rds.get (nw e).ri i rfl (x:=n.kids[i]) (zA ab) (y:=n.kids[i]) rfl<|oC h 2 rfl (xl.1,R,ac,ae) rfl ?_;have hJ:({ leaf:=nl.leaf,keys:=(if nl.leaf then nl.keys else nl.keys++[n.keys.getD i []])++nr.keys,vals:=nl.vals++nr.vals,kids:=nl.kids++nr.kids }:NodeM)=joinN nl nr (n.keys.getD i []):=rfl;have ay:n.kids.getD i 0=n.kids[i]:=qd5 ab;have al:n.kids.getD (i+1) 0=n.kids[i+1]:=qd5 ad;unfold joinM at J;rw[ay,al,<- hJ] at J;have az:=e.nodeR.weak (fun b u=>.inl (qxI b u));have e:=e.other hn dn V (fun b u=>by simp[u]) oL qx7 (Y1:=Y) qxH d5 hn.lt;refine qbu e.tw az (by dsimp only;rw[zF];omega) (by dsimp only;rw[zF];omega) (by dsimp only;rw[zF];omega) fun F1 bh am aA aB=>?_;obtain⟨e,h⟩:=e.next h am aA aB
 generalize aC:storeN k v M n.kids[i] { leaf:=nl.leaf,keys:=(if nl.leaf then nl.keys else nl.keys++[n.keys.getD i []])++nr.keys,vals:=nl.vals++nr.vals,kids:=nl.kids++nr.kids }=st at J e⊢;have hu:U32 st.1.1:=(by rw[<- aC];exact qbv hT.wf (hn.2.1.2.2 _ (zW ab)));obtain⟨⟨bi,I⟩,M1⟩:=st;dsimp only at J e hu⊢;refine qaf (fun er w'=>∃F2,er=(if I=0 then (dropV M1 n.kids[i+1]).1 else I)/\Own [r9,r7,r5,r3,r1] w' w' [(r9,.cells (ndV zeroX) ND (0,0)),(r7,.cells (ndV xr) ND (0,0)),(r5,.cells (ndV (xl.1,R,ac,ae)) ND (0,0)),(r3,.cells (ndV x) ND (0,0)),(r1,.cells (wkV (wkX k v pb t)) WK (0,0))]/\
  Ed dbk pb FD D j (Bn++(Bl++F)) Bn w0 w' [r9,r7,r5,r3,r1] Y F2 (if I=0 then (dropV M1 n.kids[i+1]).2 else M1) x n Bn) ?_ ?_
 apply qaa<;>intro z;have z:I=0:=yO.1 z;rw[if_pos z,if_pos z];have h:=oF h;refine oA h 4 rfl (pW pb) rfl<|oA h 3 rfl x.2.2.2 rfl ?_;have e:=e.now h;have ew:wrap .i64 ((i:Int)+1)=((i+1:Nat):Int):=qbD oJ;refine Rds.get e.kidsR (i+1) ew (x:=n.kids[i+1]) (zA ad) (y:=n.kids[i+1]) rfl<|TW.drop e.tw fun F2 bj an aD aE=>?_;obtain⟨e,h⟩:=e.next h an aD aE
 exact⟨F2,rfl,h,e⟩;have z:¬I=0:=zR.1 z;rw[if_neg z,if_neg z];exact⟨F1,rfl,h,e⟩;rintro er bk ⟨F2,rfl,h,e⟩;have e:=e.now h;have h:=qao h (.refl _);have aF:∀ {A B:(NodeM×Int)×PgM},(if I≠0 then A else B)=if I=0 then B else A:=by intro A B;by_cases h:I=0;rw[if_neg (fun h'=>h' h),if_pos h];rw[if_pos h,if_neg h]
 rw[aF] at J;apply qaa<;>intro z;have z:(if I=0 then (dropV M1 n.kids[i+1]).1 else I)≠0:=by rw[zT] at z;exact zR.1 z
 refine oD h 0 rfl (ndV zeroX) fun ao h _=>oC h 0 rfl zeroX rfl ?_;have e:=e.now h;by_cases h0:I=0;rw[if_pos h0] at J z e⊢;rw[if_pos z] at J;exact J zeroX [] F2 ao e.tw'.drop0 (.zero _ _) e.fr (fun _ h=>(nomatch h)) e.sg.new;rw[if_neg h0] at J z e⊢;exact J zeroX [] F2 ao e.tw'.drop0 (.zero _ _) e.fr (fun _ h=>(nomatch h)) e.sg.new;have z:(if I=0 then (dropV M1 n.kids[i+1]).1 else I)=0:=by rw[yD] at z;exact yO.1 z
 by_cases h0:I=0;rw[if_pos h0] at J z e;rw[if_neg (fun h=>h z)] at J;refine oA h 3 rfl x.2.2.2 rfl<|e.setI h (i:=i) ab rfl hu fun B1 bm e h _=>?_;have h:=oF h;refine oA h 3 rfl x.2.2.2 rfl<|oA h 3 rfl x.2.1 rfl ?_;have e:=e.now h;have ew:wrap .i64 ((i:Int)+1)=((i+1:Nat):Int):=qbD oJ;have aG:wrap .i64 ((i:Int)+2)=((i+1+1:Nat):Int):=(by rw[wi' _ oJ];omega);refine e.delI h (i:=i+1) (by dsimp only;rw[xE];omega) ew aG (by dsimp only;rw[xE];omega) fun O B2 bn e h _=>qaj (h.cell 3 rfl rfl)<|e.delK h (i:=i) hi rfl ew oN fun U B3 bo e h _=>oD h 3 rfl (ndV (x.1,x.2.1,x.2.2.1,O)) fun bp h _=>oD h 3 rfl (ndV (x.1,U,x.2.2.1,O)) fun bq h _=>oC h 3 rfl (x.1,U,x.2.2.1,O) rfl<|oD h 0 rfl (ndV (x.1,U,x.2.2.1,O)) fun aH h _=>oC h 0 rfl (x.1,U,x.2.2.1,O) rfl ?_;have e:=e.now h;refine J (x.1,U,x.2.2.1,O) B3 F2 aH e.tw.drop0 (e.node.weak fun b u=>.inl (by simp only[Zo,zD,zG] at u⊢;rcases u with (u|u|u|u)|u<;>simp[u])) e.fr e.bnew e.sg.new;rw[if_neg h0] at z;exact absurd z h0
end
end
section
section
variable {D:DiskM} {M:PgM} {k v side c:Nat} {n nx ny:NodeM}
def qvB{e:Int}(h:loadN D M k v (n.kids.getD side 0)=(ny,e))(u:e≠0):evenM D k v M n side c nx=((zeroN,e),M):=by unfold evenM;rw[h,if_pos u]
def qt6(h:loadN D M k v (n.kids.getD side 0)=(ny,0))(u:¬spareN ny k v):evenM D k v M n side c nx=joinM k v M n (if side<c then side else c) (if side<c then ny else nx) (if side<c then nx else ny):=by unfold evenM;rw[h,if_neg (fun h=>h rfl)];by_cases hsd:side<c;rw[if_pos hsd,if_pos hsd,if_pos hsd,if_pos hsd,if_pos u];rw[if_neg hsd,if_neg hsd,if_neg hsd,if_neg hsd,if_pos u]
def qt5(h:loadN D M k v (n.kids.getD side 0)=(ny,0))(u:spareN ny k v):evenM D k v M n side c nx=bothM k v M n (if side<c then side else c) (if side<c then giveN ny nx (n.keys.getD side []) else takeN nx ny (n.keys.getD c [])):=by unfold evenM;rw[h,if_neg (fun h=>h rfl)];by_cases hsd:side<c;rw[if_pos hsd,if_pos hsd,if_pos hsd,if_neg (fun h=>h u)];rw[if_neg hsd,if_neg hsd,if_neg hsd,if_neg (fun h=>h u)]
def qk2{n:NodeM}{k v:Nat}(h:rightV n k v):ShapeN n:=by obtain⟨z,A,C,u,y⟩:=qe2 h;exact⟨fun h=>(u h).1,fun h=>(y h).1.symm,oJ,oJ,oJ⟩
def qtp(z:CapsOk k v)(u:spareN n k v)(sn:ShapeN n):1<=n.keys.length/\(n.leaf=true->2<=n.keys.length):=by
 have A:=z.leaf;have C:=z.inner;unfold spareN at u;unfold sizeN at u;cases y:n.leaf with
 | true=>rw[y,if_pos rfl] at u;dsimp only at u;exact⟨oJ,fun _=>oJ⟩
 | false=>
  have:=sn.inner y
  rw[y,if_neg oM] at u;dsimp only at u;exact⟨oJ,fun h=>nomatch h⟩
end
section
variable {dbk pb j:Nat} {FD S S0 N0 Y F F' T B Bl Br Bn Bx By:List Nat} {D:DiskM} {w0 wa w w' w7:World} {M M':PgM} {L:List (Nat×Obj)} {x xx xy:NdC} {n nx ny:NodeM} {k v:Nat} {t:Int}
def Ed.more(e:Ed dbk pb FD D j S0 N0 w0 w (bks L) Y F M x n B)(h:Own T wa w L)(E:TW dbk pb FD D j w7 (By++(bks L++(B++Y))) F M)(G:NodeB (Zo FD (By++(bks L++(B++Y))) F) w7 xy ny By)(f:Fr [] w w7)(z:∀c∈By,w.heap.size<=c): Ed dbk pb FD D j S0 N0 w0 w7 (bks L) (By++Y) F M x n B/\Own (bks L) w7 w7 L/\Oth FD F w7 (bks L) (B++(By++Y)) xy ny By:=by
 have y:∀b∈Zo FD (bks L++(B++(By++Y))) F,b∈Zo FD (By++(bks L++(B++Y))) F:=fun b u=>by simp only[Zo,zD,zG] at u⊢;rcases u with (u|u|u|u|u|u)|u<;>simp[u]
 have A:∀b∈Zo FD (bks L++(B++(By++Y))) F,b∈Zo FD (bks L++(B++Y)) F\/w.heap.size<=b:=fun b u=>by simp only[Zo,zD,zG] at u⊢;rcases u with (u|u|u|u|u|u)|u;simp[u];simp[u];simp[u];simp[u];exact .inr (z b u);simp[u];simp[u]
 refine⟨⟨⟨e.sg.tot.trans' f (fun _ h=>nomatch h),e.sg.new,e.sg.own⟩,E.weakY fun b u=>?_,e.node.frame f (fun _ _ h=>nomatch h) (fun _ h=>nomatch h) A,e.sep,e.bnew,e.nsub,fun b u y=>?_⟩,qaV h f (fun _ _ h=>nomatch h),G.weak fun b u=>.inl (y b u),fun b u y=>?_⟩;simp only[zD] at u⊢;rcases u with u|u|u|u<;>simp[u];rcases zD.1 y with C|C
 have:=e.node.lt b u;have:=z b C;omega
 exact e.ysep b u C
 have:=qjr h b u;have:=z b y;omega
def Oth.more(o:Oth FD F w (bks L) (B++Y) x n Bx)(f:Fr [] w w7)(y:∀c∈By,w.heap.size<=c):Oth FD F w7 (bks L) (B++(By++Y)) x n Bx:=
 ⟨o.node.frame f (fun _ _ h=>nomatch h) (fun _ h=>nomatch h) fun b u=>by simp only[Zo,zD,zG] at u⊢;rcases u with (u|u|u|u|u|u)|u;simp[u];simp[u];simp[u];simp[u];exact .inr (y b u);simp[u];simp[u],o.sep⟩
def Oth.frame0{R:List Nat}(o:Oth FD F w T R x n B)(f:Fr [] w w'):Oth FD F w' T R x n B:=⟨o.node.frame0 f,o.sep⟩
def qt9{nl nr:NodeM}(h:∀a∈nl.keys,IsB a)(sl:ShapeN nl)(u:ShapeN nr):IsB (giveN nl nr key).2.2/\(giveN nl nr key).1.keys.length<=9000/\(giveN nl nr key).1.vals.length<=9000/\(giveN nl nr key).1.kids.length<=9000/\(giveN nl nr key).2.1.keys.length<=9000/\(giveN nl nr key).2.1.vals.length<=9000/\(giveN nl nr key).2.1.kids.length<=9000:=by obtain⟨_,_,y,z,A⟩:=sl;obtain⟨_,_,C,E,G⟩:=u;unfold giveN;split;refine⟨qa8 h _,?_⟩;simp only[yK,yH];omega;refine⟨qa8 h _,?_⟩;simp only[yK,yH];omega
def qu0{nl nr:NodeM}(h:∀a∈nr.keys,IsB a)(sl:ShapeN nl)(u:ShapeN nr):IsB (takeN nl nr key).2.2/\(takeN nl nr key).1.keys.length<=9000/\(takeN nl nr key).1.vals.length<=9000/\(takeN nl nr key).1.kids.length<=9000/\(takeN nl nr key).2.1.keys.length<=9000/\(takeN nl nr key).2.1.vals.length<=9000/\(takeN nl nr key).2.1.kids.length<=9000:=by obtain⟨_,_,z,A,C⟩:=sl;obtain⟨_,_,E,G,I⟩:=u;unfold takeN;split;refine⟨qa8 (fun a y=>h a (yT y)) _,?_⟩;simp only[zF,yB,yH,length_nil];omega;refine⟨qa8 h _,?_⟩;simp only[zF,yB,yH,length_nil];omega
def qbJ{Y':List Nat}(h:∀b∈Y',b∈Y):∀b∈Zo FD Y' F,b∈Zo FD Y F:=fun b u=>by simp only[Zo,zD,zG] at u⊢;rcases u with (u|u|u)|u;simp[u];simp[u];simp[h b u];simp[u]
def Ed.nextS{Y1:List Nat}(e:Ed dbk pb FD D j S0 N0 w0 w (bks L) Y F M x n B)(h:Own T wa w L)(G:TW dbk pb FD D j w' (bks L++(B++Y1)) F M)(f:Fr S w w')(A:∀b∈S,b∈S0\/w0.heap.size<=b)(y:∀b∈S,b∉B/\b∉bks L)(C:∀b∈S,b∈Zo FD (bks L++(B++Y)) F)(E:∀b∈Y1,b∈Y): Ed dbk pb FD D j S0 N0 w0 w' (bks L) Y1 F M x n B/\Own (bks L) w' w' L:=
 ⟨⟨⟨e.sg.tot.trans' f A,e.sg.new,e.sg.own⟩,G,e.node.frame f (fun b u z=>(y b z).1 u) (fun b u=>.inl (C b u)) fun b u=>.inl (by simp only[Zo,zD,zG] at u⊢;rcases u with (u|u|u|u|u)|u;simp[u];simp[u];simp[u];simp[u];simp[E b u];simp[u]),e.sep,e.bnew,e.nsub,fun b u z=>e.ysep b u (E b z)⟩,qaV h f fun b u z=>(y b z).2 u⟩
set_option maxHeartbeats 4000000 in
def qvC{side c:Nat}{K:NdC×Int->WP}(hT:TW dbk pb FD D j w0 (Bn++(Bx++Y)) F M)(hn:NodeB (Zo FD (Bn++(Bx++Y)) F) w0 x n Bn)(hx:NodeB (Zo FD (Bn++(Bx++Y)) F) w0 xx nx Bx)(d1:∀b∈Bn,b∉Bx)(d2:∀b∈Bn,b∉Y)(d3:∀b∈Bx,b∉Y)(sn:ShapeN n)(sx:ShapeN nx)(aY:n.leaf=false)(cj:side+1=c\/c+1=side)(hs:side<n.kids.length)(ck:c<n.kids.length)(bB:∀ny,loadN D M k v (n.kids.getD side 0)=(ny,0)->ny.leaf=nx.leaf)(aZ:CapsOk k v)(U:∀yn B' F' w',TW dbk pb FD D j w' (B'++Y) F' (evenM D k v M n side c nx).2->NodeB (Zo FD (B'++Y) F') w' yn (evenM D k v M n side c nx).1.1 B'->Fr (Bn++(Bx++F)) w0 w'->(∀b∈B',b∈Bn\/w0.heap.size<=b)->(∀b∈F',b∈Bn++(Bx++F)\/w0.heap.size<=b)->K (yn,(evenM D k v M n side c nx).1.2) w'): cW 153 [.agg (wkV (wkX k v pb t)),.agg (ndV x),.i side,.i c,.agg (ndV xx)] [.agg qab,.one .i] w0 K:=by
 refine qku ?_;unfold qgC qcL qcM;have ei:(if (c:Int)<(side:Int) then (c:Int) else (side:Int))=(((if side<c then side else c):Nat):Int):=by by_cases h1:c<side;rw[iP,iN];rw[iN,iP]
 have aj:(if side<c then side else c)+1<n.kids.length:=(by split<;>omega);rw[ei];generalize ax:(if side<c then side else c)=i at aj⊢;have il:=sn.inner aY;have s1:=sn.keys;have s3:=sn.kids;have ay:i<n.keys.length:=oJ;have ew:wrap .i64 ((i:Int)+1)=((i+1:Nat):Int):=qbD oJ;rw[ew];have e0:Ed dbk pb FD D j (Bn++(Bx++F)) Bn w0 w0 [] (Bx++Y) F M x n Bn:=⟨⟨.refl _ _,fun b u=>.inl (by simp[u]),fun _ h=>nomatch h⟩,hT,hn,fun _ h=>(nomatch h),fun b u=>.inl u,fun b u=>by simp[u],fun b u E=>(zD.1 E).elim (d1 b u) (d2 b u)⟩;have o0:Oth FD F w0 [] (Bn++(Bx++Y)) xx nx Bx:=⟨hx,fun _ h=>nomatch h⟩;rcases ag:loadN D M k v (n.kids.getD side 0) with ⟨ny,ey⟩;have bD:n.kids.getD side 0=n.kids[side]:=qd5 hs;have aG:loadN D M k v n.kids[side]=(ny,ey):=(by rw[<- bD];exact ag);have a0:=hx.lt;have a3:∀b∈Y,b<w0.heap.size:=fun b u=>hT.ylt b (by simp[u]);have a4:U32 n.kids[side]:=hn.2.1.2.2 _ (zW hs);have h:=oE [] w0;refine oB h fun r1 w2 _ _ h=>oB h fun G w4 _ _ h=>oB h fun I w6 _ _ h=>oB h fun J w8 _ _ h=>?_;have h:=oF h;refine⟨?a,?b⟩;case' a=>
  have e:=e0.now h;have o:=o0.now h;refine oC h 3 rfl (wkX k v pb t) rfl<|oA h 2 rfl x.2.2.2 rfl<|Rds.getU e.kidsR side rfl hs fun bE hh=>?_;have aL:=e.fr.size;refine qhc (k:=k) (v:=v) e.tw a4 fun xy By bG ak Q al R=>?_;rw[aG] at Q⊢;dsimp only at Q;obtain⟨e,h,oy⟩:=e.more h ak Q al R;have ox:=o.more (By:=By) al R;refine oB h fun z bH _ _ h=>qap (hh _ _ (e.now h).kidsR) (h.cell 3 rfl rfl) (h.cells 4 rfl rfl)<|oD h 0 rfl (ndV xy) fun bI h _=>?_;have oy:=oy.now h;have ox:=ox.now h;have e:=e.now h;have h:=qao h (.refl _);have az:∀b∈By,w0.heap.size<=b:=fun b u=>zL aL (R b u)
 case' b=>
  have e:=e0.now h;have o:=o0.now h;have h:=qao h (.refl _);refine oC h 3 rfl (wkX k v pb t) rfl<|oA h 2 rfl x.2.2.2 rfl<|Rds.getU e.kidsR side rfl hs fun bE hh=>oB h fun z bH _ _ h=>?_;have e:=e.now h;have o:=o.now h;refine qap (hh _ _ e.kidsR) (h.cell 3 rfl rfl) (h.cells 4 rfl rfl) ?_;have aL:=e.fr.size;refine qhc (k:=k) (v:=v) e.tw a4 fun xy By bG ak Q al R=>?_;rw[aG] at Q⊢;dsimp only at Q;obtain⟨e,h,oy⟩:=e.more h ak Q al R;have ox:=o.more (By:=By) al R;refine oD h 0 rfl (ndV xy) fun bI h _=>?_;have oy:=oy.now h;have ox:=ox.now h;have e:=e.now h;have h:=qao h (.refl _);have az:∀b∈By,w0.heap.size<=b:=fun b u=>zL aL (R b u)
 all_goals
  apply qaa<;>intro hc;have am:ey≠0:=by rw[zT] at hc;exact zR.1 hc
  rw[qvB ag am] at U;refine oD h 1 rfl (ndV zeroX) fun bJ h _=>oC h 1 rfl zeroX rfl ?_;have e:=e.now h;exact U zeroX [] F bJ (e.tw'.weakY fun b u=>by simp at u⊢;simp[u]) (.zero _ _) e.fr (fun _ h=>(nomatch h)) e.sg.new;have bK:ey=0:=by rw[yD] at hc;exact yO.1 hc
  subst bK;have bL:=qeZ ag;have sy:=qk2 bL;have aH:=bB ny ag;have aM:∀b∈By,b∉Bx:=fun b u E=>by have:=az b u;have:=a0 b E;omega
  have a6:∀b∈By,b∉Y:=fun b u E=>by have:=az b u;have:=a3 b E;omega
  refine⟨?_,?_⟩;have h:=oF h;refine oC h 2 rfl xx rfl<|oC h 0 rfl xy rfl<|oB h fun A bM _ _ h=>qan (h.cells 1 rfl rfl) (h.cells 3 rfl rfl)<|oB h fun C bN _ _ h=>qan (h.cells 2 rfl rfl) (h.cells 4 rfl rfl)<|oD h 1 rfl (ndV xx) fun bO h _=>qaj (h.cells 2 rfl rfl)<|oD h 0 rfl (ndV xy) fun bP h _=>?_;rotate_left;have h:=oF h;refine oC h 2 rfl xx rfl<|oC h 0 rfl xy rfl<|oB h fun C bM _ _ h=>qan (h.cells 1 rfl rfl) (h.cells 3 rfl rfl)<|oB h fun A bN _ _ h=>qan (h.cells 2 rfl rfl) (h.cells 4 rfl rfl)<|oD h 0 rfl (ndV xx) fun bO h _=>qaj (h.cells 2 rfl rfl)<|oD h 1 rfl (ndV xy) fun bP h _=>?_;have h:=qh7 h (List.Perm.swap _ _ _);all_goals
   obtain⟨xl,nl,Bl,xr,nr,Br,hP⟩:∃xl nl Bl xr nr Br,(side<c/\xl=xy/\nl=ny/\Bl=By/\xr=xx/\nr=nx/\Br=Bx)\/(¬side<c/\xl=xx/\nl=nx/\Bl=Bx/\xr=xy/\nr=ny/\Br=By):=by by_cases O:side<c;exact⟨_,_,_,_,_,_,.inl ⟨O,rfl,rfl,rfl,rfl,rfl,rfl⟩⟩;exact⟨_,_,_,_,_,_,.inr ⟨O,rfl,rfl,rfl,rfl,rfl,rfl⟩⟩
   refine qaf (fun _ w'=>Own [C,A,z,J,I,G,r1] w' w' [(C,.cells (ndV xr) ND (0,0)),(A,.cells (ndV xl) ND (0,0)),(z,.cells (ndV xy) ND (0,0)),(J,.cells (ndV zeroX) ND (0,0)),(I,.cells (ndV xx) ND (0,0)),(G,.cells (ndV x) ND (0,0)),(r1,.cells (wkV (wkX k v pb t)) WK (0,0))]/\
    Ed dbk pb FD D j (Bn++(Bx++F)) Bn w0 w' [C,A,z,J,I,G,r1] (By++(Bx++Y)) F M x n Bn/\Oth FD F w' [C,A,z,J,I,G,r1] (Bn++(By++(Bx++Y))) xx nx Bx/\Oth FD F w' [C,A,z,J,I,G,r1] (Bn++(By++(Bx++Y))) xy ny By) ?_ ?_
   apply qaa<;>intro hc;have O:side<c:=(by have:=zC hc;omega);rcases hP with ⟨_,rfl,rfl,rfl,rfl,rfl,rfl⟩|⟨hn,_⟩;have h:=oF h;exact oC h 2 rfl xl rfl<|oC h 4 rfl xr rfl<|oD h 1 rfl (ndV xl) fun cn h _=>qaj (h.cells 4 rfl rfl)<|oD h 0 rfl (ndV xr) fun co h _=>⟨qao h (.refl _),e.now h,ox.now h,oy.now h⟩;exact absurd O hn;have O:¬side<c:=(by have:=zB hc;omega);rcases hP with ⟨hn,_⟩|⟨_,rfl,rfl,rfl,rfl,rfl,rfl⟩;exact absurd hn O;exact⟨qao h (.refl _),e.now h,ox.now h,oy.now h⟩;rintro _ cp ⟨h,e,ox,oy⟩;refine oC h 6 rfl (shX k v) rfl<|oC h 2 rfl xy rfl ?_;have ly:NodeL xy ny:=(oy.node.rd (S:=[]) (fun _ _ h=>(nomatch h)) fun _ h=>nomatch h).lens;refine qwb ly fun ah bQ=>?_;have h:=h.frame0 bQ;have e:=e.now h;have ox:=ox.now h;have oy:=oy.now h;have h:=qao h (.refl _);apply qaa<;>intro hc;have aB:¬spareN ny k v:=by rw[zT] at hc;exact zB hc
   rw[qt6 ag aB] at U;have hj:(if side<c then ny else nx)=nl/\(if side<c then nx else ny)=nr:=by rcases hP with ⟨h1,_,h2,_,_,h3,_⟩|⟨h1,_,h2,_,_,h3,_⟩;rw[if_pos h1,if_pos h1,h2,h3];exact⟨rfl,rfl⟩;rw[if_neg h1,if_neg h1,h2,h3];exact⟨rfl,rfl⟩
   rw[ax,hj.1,hj.2] at U;have e:=e.sub (T1:=[C,A,z,J,I,G,r1]) fun b u=>u;have aN:Oth FD F ah [C,A,z,J,I,G,r1] (Bn++(By++(Bx++Y))) xl nl Bl:=by rcases hP with ⟨_,rfl,rfl,rfl,_⟩|⟨_,rfl,rfl,rfl,_⟩<;>assumption
   have bT:Oth FD F ah [C,A,z,J,I,G,r1] (Bn++(By++(Bx++Y))) xr nr Br:=by rcases hP with ⟨_,_,_,_,rfl,rfl,rfl⟩|⟨_,_,_,_,rfl,rfl,rfl⟩<;>assumption
   have a7:ShapeN nl/\ShapeN nr:=by rcases hP with ⟨_,_,rfl,_,_,rfl,_⟩|⟨_,_,rfl,_,_,rfl,_⟩<;>exact⟨by assumption,by assumption⟩
   have bU:(∀b∈Bl,b∈By\/b∈Bx)/\(∀b∈Br,b∈By\/b∈Bx)/\∀b∈Bl,b∉Br:=by rcases hP with ⟨_,_,_,rfl,_,_,rfl⟩|⟨_,_,_,rfl,_,_,rfl⟩;exact⟨fun b u=>.inl u,fun b u=>.inr u,aM⟩;exact⟨fun b u=>.inr u,fun b u=>.inl u,fun b u E=>aM b E u⟩
   obtain⟨aC,a8,bV⟩:=bU;have aO:∀b,b∈By\/b∈Bx->b∉Bn/\b∉Y:=fun b u=>by rcases u with u|u;exact⟨fun E=>e.ysep b E (by simp[u]),a6 b u⟩;exact⟨fun E=>e.ysep b E (by simp[u]),d3 b u⟩
   have an:∀b∈Bl++(Bn++(Br++([C,A,z,J,I,G,r1]++Y))),b∈[C,A,z,J,I,G,r1]++(Bn++(By++(Bx++Y))):=fun b u=>by have a1:=aC b;have a2:=a8 b;rw[zD,zD,zD,zD] at u⊢;rcases u with u|u|u|u|u;rcases a1 u with h|h<;>simp[h];simp[u];rcases a2 u with h|h<;>simp[h];simp[u];simp[u]
   have hZ:∀b∈Zo FD (Bl++(Bn++(Br++([C,A,z,J,I,G,r1]++Y)))) F,b∈Zo FD ([C,A,z,J,I,G,r1]++(Bn++(By++(Bx++Y)))) F:=qbJ an;refine oC h 6 rfl (wkX k v pb t) rfl<|oC h 5 rfl x rfl<|oC h 1 rfl xl rfl<|oC h 0 rfl xr rfl<|qvM (Y:=[C,A,z,J,I,G,r1]++Y) (e.tw.weakY an) (aN.node.weak fun b u=>.inl (hZ b u)) (e.node.weak fun b u=>.inl (hZ b u)) (bT.node.weak fun b u=>.inl (hZ b u)) (fun b u=>(aO b (aC b u)).1) bV (fun b u E=>(zD.1 E).elim (fun E=>aN.sep b E u) (aO b (aC b u)).2) (fun b u E=>(aO b (a8 b E)).1 u) (fun b u E=>(zD.1 E).elim (fun E=>e.sep b E u) (d2 b u)) a7.1 a7.2 sn ay aY fun yn B' F' bY a9 a' ba nB nF=>?_;have bZ:∀b∈[C,A,z,J,I,G,r1],b<ah.heap.size:=fun b u=>e.tw.ylt b (zH _ u);have hS:∀b∈Bn++(Bl++F),b∈Bn++(Bx++F)\/w0.heap.size<=b:=fun b u=>by rcases zD.1 u with u|u;exact .inl (by simp[u]);rcases zD.1 u with u|u;rcases aC b u with h1|h1;exact .inr (az b h1);exact .inl (by simp[h1]);exact .inl (by simp[u])
   have h:=qaV h ba fun b u E=>by rcases zD.1 E with E|E;exact e.sep b u E;rcases zD.1 E with E|E;exact aN.sep b u E;exact e.tw.yf b (zH _ u) E
   refine oD h 3 rfl (ndV yn) fun b0 h _=>oC h 3 rfl yn rfl ?_;have bb:∀b∈[C,A,z,J,I,G,r1]++(B'++Y),b∈B'++([C,A,z,J,I,G,r1]++Y):=fun b u=>by rw[zD,zD] at u⊢;rcases u with u|u|u<;>simp[u]
   have o:Oth FD F' bY [C,A,z,J,I,G,r1] (B'++Y) yn _ B':=⟨a'.weak fun b u=>.inl (qbJ bb b u),fun b u E=>(nB b E).elim (e.sep b u) fun h1=>by have:=bZ b u;omega⟩;have b1:=a9.weakY bb;exact U yn B' F' b0 (TW.now (T:=[C,A,z,J,I,G,r1]) b1 h).drop0 ((o.now h).node.weak fun b u=>.inl (qff b u)) ((e.fr.trans' ba hS).trans' h.fr e.sg.own) (fun b u=>(nB b u).imp id fun h1=>zL e.fr.size h1) fun b u=>(nF b u).elim (hS b) fun h1=>.inr (zL e.fr.size h1);have aB:spareN ny k v:=(by rw[yD] at hc;exact zC hc);rw[qt5 ag aB,ax] at U;obtain⟨y1,y2⟩:=qtp aZ aB sy;have e:=e.sub (T1:=[C,A,z,J,I,G,r1]) fun b u=>u;have ox:Oth FD F ah [C,A,z,J,I,G,r1] (Bn++(By++(Bx++Y))) xx nx Bx:=ox;have oy:Oth FD F ah [C,A,z,J,I,G,r1] (Bn++(By++(Bx++Y))) xy ny By:=oy;have bc:∀b∈Bx++(By++([C,A,z,J,I,G,r1]++(Bn++Y))),b∈[C,A,z,J,I,G,r1]++(Bn++(By++(Bx++Y))):=fun b u=>by rw[zD,zD,zD,zD] at u⊢;rcases u with u|u|u|u|u<;>simp[u]
   have aP:∀b∈Zo FD (Bx++(By++([C,A,z,J,I,G,r1]++(Bn++Y)))) F,b∈Zo FD ([C,A,z,J,I,G,r1]++(Bn++(By++(Bx++Y)))) F:=qbJ bc;have bd:∀b∈Bx,b∉By:=fun b u E=>aM b E u;have aI:∀b∈Bx,b∉[C,A,z,J,I,G,r1]++(Bn++Y):=fun b u E=>by rcases zD.1 E with E|E;exact ox.sep b E u;rcases zD.1 E with E|E;exact d1 b E u;exact d3 b u E
   have aJ:∀b∈By,b∉[C,A,z,J,I,G,r1]++(Bn++Y):=fun b u E=>by rcases zD.1 E with E|E;exact oy.sep b E u;rcases zD.1 E with E|E;exact e.ysep b E (by simp[u]);exact a6 b u E
   obtain⟨nk,nv,on⟩:=e.node.opn (S0:=[]) fun _ _ h=>nomatch h;have ao:i<nk.length:=(by rw[on.klen];exact ay);have bf:IsB nk[i].2:=(by rw[<- on.keyAt ao];exact qa8 on.nb.1 _);have bg:=(on.ek _ (zW ao)).frame (.refl _ _) fun b u=>.inl (aP b u);have bh:n.keys.getD i []=nk[i].2:=on.keyAt ao;have bi:=e.tw.weakY bc;have bj:=ox.node.weak fun b u=>.inl (aP b u);have aE:=oy.node.weak fun b u=>.inl (aP b u);refine qaf (fun _ w'=>∃yl yr r B',Own [C,A,z,J,I,G,r1] w' w' [(C,.cells (ndV yr) ND (0,0)),(A,.cells (ndV yl) ND (0,0)),(z,.cells (ndV xy) ND (0,0)),(J,.cells (ndV zeroX) ND (0,0)),(I,.cells (ndV xx) ND (0,0)),(G,.cells (ndV x) ND (0,0)),(r1,.cells (wkV (wkX k v pb t)) WK (0,0))]/\
    Ed dbk pb FD D j (Bn++(Bx++F)) Bn w0 w' [C,A,z,J,I,G,r1] Y F M x { n with keys:=n.keys.set i r.2.2 } B'/\NodeR (Zo FD ([C,A,z,J,I,G,r1]++(B'++Y)) F) w' yl r.1/\NodeR (Zo FD ([C,A,z,J,I,G,r1]++(B'++Y)) F) w' yr r.2.1/\
    (if side<c then giveN ny nx (n.keys.getD side []) else takeN nx ny (n.keys.getD c []))=r/\r.1.keys.length<=9000/\r.1.vals.length<=9000/\r.1.kids.length<=9000/\r.2.1.keys.length<=9000/\r.2.1.vals.length<=9000/\r.2.1.kids.length<=9000) ?_ ?_
   have bk:∀b∈Bx++F,b∈Bn++(Bx++F)\/w0.heap.size<=b:=fun b u=>.inl (zI _ u);have bl:∀b∈Bx++F,b∉Bn/\b∉[C,A,z,J,I,G,r1]:=fun b u=>by rcases zD.1 u with u|u;exact⟨fun E=>d1 b E u,fun E=>ox.sep b E u⟩;exact⟨fun E=>e.tw.yf b (by simp[E]) u,fun E=>e.tw.yf b (zH _ E) u⟩
   have bm:∀b∈Bx++F,b∈Zo FD ([C,A,z,J,I,G,r1]++(Bn++(By++(Bx++Y)))) F:=fun b u=>by rcases zD.1 u with u|u<;>simp[u]
   have fd:=(Fr.refl [] ah).drew;apply qaa<;>intro aR;have O:side<c:=(by have:=zC aR;omega);have aS:side=i:=(by rw[<- ax,if_pos O]);rcases hP with ⟨_,rfl,rfl,rfl,rfl,rfl,rfl⟩|⟨hn,_⟩;have h:=oF h;have e:=e.now h;have h:=qao h (.refl _);refine oA h 5 rfl x.2.1 rfl<|oC h 1 rfl xl rfl<|oC h 0 rfl xr rfl<|oA h 5 rfl x.2.1 rfl<|Rds.get (on.rk.frame0 fd) i rfl (x:=nk[i].1) (by rw[zQ,zA ao];rfl) (y:=nk[i].1) rfl ?_;have gm:=qt9 (key:=nk[i].2) aE.2.1.1 sy sx;refine qvG (Y:=[C,A,z,J,I,G,r1]++(Bn++Y)) (bi.frame0 fd) (aE.frame0 fd) (bj.frame0 fd) bd aI aJ (bg.frame0 fd) bf aH y1 sy sx fun yl yr b2 b3 ap hL V af aT=>?_;obtain⟨e,h⟩:=e.nextS h ap aT bk bl bm fun b u=>by simp[u]
   refine qaj (h.cell 5 rfl rfl)<|oD h 1 rfl (ndV yl) fun b4 h _=>qaj (h.cell 5 rfl rfl)<|oD h 0 rfl (ndV yr) fun b5 h _=>qaj (h.cell 5 rfl rfl) ?_;have e:=e.now h;have hL:=NodeR.now (T:=[C,A,z,J,I,G,r1]) hL h;have V:=NodeR.now (T:=[C,A,z,J,I,G,r1]) V h;have af:=qaM (T:=[C,A,z,J,I,G,r1]) af h;have h:=qao h (.refl _);exact e.setK h (i:=i) ay rfl af gm.1 fun B1 b6 e h kp=>⟨yl,yr,_,B1,h,e,kp.node _ _ hL,kp.node _ _ V,by rw[if_pos O,aS,bh],gm.2.1,gm.2.2.1,gm.2.2.2.1,gm.2.2.2.2.1,gm.2.2.2.2.2.1,gm.2.2.2.2.2.2⟩;exact absurd O hn;have O:¬side<c:=(by have:=zB aR;omega);have aS:c=i:=(by rw[<- ax,if_neg O]);rcases hP with ⟨hn,_⟩|⟨_,rfl,rfl,rfl,rfl,rfl,rfl⟩;exact absurd hn O;have h:=oF h;have e:=e.now h;have h:=qao h (.refl _);refine oA h 5 rfl x.2.1 rfl<|oC h 1 rfl xl rfl<|oC h 0 rfl xr rfl<|oA h 5 rfl x.2.1 rfl<|Rds.get (on.rk.frame0 fd) i rfl (x:=nk[i].1) (by rw[zQ,zA ao];rfl) (y:=nk[i].1) rfl ?_;have gm:=qu0 (key:=nk[i].2) aE.2.1.1 sx sy;refine qwg (Y:=[C,A,z,J,I,G,r1]++(Bn++Y)) (bi.frame0 fd) (bj.frame0 fd) (aE.frame0 fd) bd aI aJ (bg.frame0 fd) bf aH.symm y1 y2 sx sy fun yl yr b2 b3 ap hL V af aT=>?_;obtain⟨e,h⟩:=e.nextS h ap aT bk bl bm fun b u=>by simp[u]
   refine qaj (h.cell 5 rfl rfl)<|oD h 1 rfl (ndV yl) fun b4 h _=>qaj (h.cell 5 rfl rfl)<|oD h 0 rfl (ndV yr) fun b5 h _=>qaj (h.cell 5 rfl rfl) ?_;have e:=e.now h;have hL:=NodeR.now (T:=[C,A,z,J,I,G,r1]) hL h;have V:=NodeR.now (T:=[C,A,z,J,I,G,r1]) V h;have af:=qaM (T:=[C,A,z,J,I,G,r1]) af h;have h:=qao h (.refl _);exact e.setK h (i:=i) ay rfl af gm.1 fun B1 b6 e h kp=>⟨yl,yr,_,B1,h,e,kp.node _ _ hL,kp.node _ _ V,by rw[if_neg O,aS,bh],gm.2.1,gm.2.2.1,gm.2.2.2.1,gm.2.2.2.2.1,gm.2.2.2.2.2.1,gm.2.2.2.2.2.2⟩;rintro _ ct ⟨yl,yr,r,B',h,e,hL,V,hr,q1,q2,q3,q4,q5,q6⟩;have aF:i<n.kids.length:=oJ;rw[hr] at U;unfold bothM at U;rw[qd5 aF,qd5 aj] at U;have h:=oF h;have e:=e.now h;have hL:=NodeR.now (T:=[C,A,z,J,I,G,r1]) hL h;have V:=NodeR.now (T:=[C,A,z,J,I,G,r1]) V h;have h:=qao h (.refl _);refine oA h 5 rfl x.2.2.2 rfl<|oC h 6 rfl (wkX k v pb t) rfl<|oA h 5 rfl x.2.2.2 rfl<|Rds.get e.kidsR i rfl (x:=n.kids[i]) (zA aF) (y:=n.kids[i]) rfl<|oC h 1 rfl yl rfl<|qbu e.tw hL oJ oJ oJ fun F1 cw bn bo bp=>?_;obtain⟨e,h⟩:=e.next h bn bo bp
   have V:=V.next bo bp
   have aV:U32 (storeN k v M n.kids[i] r.1).1.1:=qbv hT.wf (hn.2.1.2.2 _ (zW aF));generalize storeN k v M n.kids[i] r.1=b7 at U e aV⊢;obtain⟨⟨a1,bq⟩,M1⟩:=b7;dsimp only at U e aV⊢;refine qaj (h.cell 5 rfl rfl)<|e.setI h (i:=i) aF rfl aV fun B1 cx e h kp=>?_;have V:=kp.node _ _ V;apply qaa<;>intro ar;have am:bq≠0:=(by rw[zT] at ar;exact zR.1 ar);rw[if_pos am] at U;refine oD h 3 rfl (ndV zeroX) fun br h _=>oC h 3 rfl zeroX rfl ?_;have e:=e.now h;exact U zeroX [] F1 br e.tw'.drop0 (.zero _ _) e.fr (fun _ h=>(nomatch h)) e.sg.new;have am:¬bq≠0:=(by rw[yD] at ar;exact fun h=>h (yO.1 ar));rw[if_neg am] at U;have bs:(n.kids.set i a1)[i+1]?=some n.kids[i+1]:=(by rw[List.getElem?_set_ne oJ,zA aj]);have h:=oF h;have e:=e.now h;have V:=NodeR.now V h;have h:=qao h (.refl _);refine oA h 5 rfl x.2.2.2 rfl<|oC h 6 rfl (wkX k v pb t) rfl<|oA h 5 rfl x.2.2.2 rfl<|Rds.get e.kidsR (i+1) rfl (x:=n.kids[i+1]) bs (y:=n.kids[i+1]) rfl<|oC h 0 rfl yr rfl<|qbu e.tw V oJ oJ oJ fun F2 ch aW bt bu=>?_;have aX:U32 (storeN k v M1 n.kids[i+1] r.2.1).1.1:=qbv e.tw.wf (hn.2.1.2.2 _ (zW aj));obtain⟨e,h⟩:=e.next h aW bt bu
   generalize storeN k v M1 n.kids[i+1] r.2.1=b8 at U e aX⊢;obtain⟨⟨a2,cz⟩,M2⟩:=b8;dsimp only at U e aX⊢;refine qaj (h.cell 5 rfl rfl)<|e.setI h (i:=i+1) (by dsimp only;rw[xE];exact aj) rfl aX fun B2 ci e h _=>oC h 5 rfl x rfl<|oD h 3 rfl (ndV x) fun bv h _=>oC h 3 rfl x rfl ?_;have e:=e.now h;exact U x B2 F2 bv e.tw.drop0 (e.node.weak fun b u=>.inl (qff b u)) e.fr e.bnew e.sg.new
end
end
section
section
variable {D:DiskM} {M M1:PgM} {k v f side c i:Nat} {key:Key} {p e0 e1:Int} {n nx N:NodeM}
def qf6{α:Type}{l:List α}{i:Nat}(h:i<l.length):(delAt l i).length+1=l.length:=by unfold delAt;rw[zF,yK,yB];omega
def qkM{l r:NodeM}(sn:ShapeN n)(u:n.leaf=false)(hi:i<n.keys.length)(h:(joinM k v M n i l r).1.2=0):ShapeN (joinM k v M n i l r).1.1:=by have E:=sn.inner u;obtain⟨_,_,G,A,I⟩:=sn;unfold joinM at h⊢;split;rename_i y;rw[if_pos y] at h;exact absurd h y;rename_i y;rw[if_neg y] at h;split;rename_i z;rw[if_pos z] at h;exact absurd h z;have C:=qf6 (l:=n.kids.set i (storeN k v M (n.kids.getD i 0) (joinN l r (n.keys.getD i []))).1.1) (i:=i+1) (by rw[xE];omega);have J:=qf6 hi;rw[xE] at C;exact⟨(fun h=>by rw[u] at h;cases h),fun _=>by dsimp only;omega,by dsimp only;omega,A,by dsimp only;omega⟩
def qky{r:NodeM×NodeM×Key}(sn:ShapeN n)(u:n.leaf=false)(h:(bothM k v M n i r).1.2=0):ShapeN (bothM k v M n i r).1.1:=by have z:=sn.inner u;obtain⟨_,_,A,C,E⟩:=sn;unfold bothM at h⊢;split;rename_i y;rw[if_pos y] at h;exact absurd h y;exact⟨(fun h=>by rw[u] at h;cases h),fun _=>by dsimp only;rw[xE,xE,xE];exact z,by dsimp only;rw[xE];exact A,C,by dsimp only;rw[xE,xE];exact E⟩
def qq8(sn:ShapeN n)(u:n.leaf=false)(C:side+1=c\/c+1=side)(G:side<n.kids.length)(E:c<n.kids.length)(h:(evenM D k v M n side c nx).1.2=0):ShapeN (evenM D k v M n side c nx).1.1:=by have I:=sn.inner u;unfold evenM at h⊢;split;rename_i A;rw[if_pos A] at h;exact absurd h A;rename_i A;rw[if_neg A] at h;split;rename_i y;rw[if_pos y] at h;split;rename_i z;rw[if_pos z] at h;exact qkM sn u oJ h;rename_i z;rw[if_neg z] at h;exact qky sn u h;rename_i y;rw[if_neg y] at h;split;rename_i z;rw[if_pos z] at h;exact qkM sn u oJ h;rename_i z;rw[if_neg z] at h;exact qky sn u h
def sideOf (c:Nat):Nat:=if c>0 then c-1 else c+1
def qvx(h:loadN D M k v p=(n,e0))(u:e0≠0):cutN D k v key (f+1) M p=((zeroN,e0),M):=by unfold cutN;rw[h,if_pos u]
def qvy(h:loadN D M k v p=(n,0))(u:n.leaf=true)(y:n.keys[placeV n.keys key]?=some key):cutN D k v key (f+1) M p=(({ n with keys:=delAt n.keys (placeV n.keys key),vals:=delAt n.vals (placeV n.keys key) },0),M):=by unfold cutN;rw[h,if_neg (fun h=>h rfl),if_pos u,if_pos y]
def qtT(h:loadN D M k v p=(n,0))(u:n.leaf=true)(y:¬n.keys[placeV n.keys key]?=some key):cutN D k v key (f+1) M p=((zeroN,5),M):=by unfold cutN;rw[h,if_neg (fun h=>h rfl),if_pos u,if_neg y]
def qtS(h:loadN D M k v p=(n,0))(u:¬n.leaf=true)(y:cutN D k v key f M (n.kids.getD (kidV n.keys key) 0)=((N,e1),M1))(z:e1≠0):cutN D k v key (f+1) M p=((zeroN,e1),M1):=by unfold cutN;rw[h,if_neg (fun h=>h rfl),if_neg u];dsimp only;rw[y,if_pos z]
def qtR(h:loadN D M k v p=(n,0))(u:¬n.leaf=true)(y:cutN D k v key f M (n.kids.getD (kidV n.keys key) 0)=((N,0),M1))(z:¬lowN N k v):cutN D k v key (f+1) M p = (({ n with kids:=n.kids.set (kidV n.keys key) (storeN k v M1 (n.kids.getD (kidV n.keys key) 0) N).1.1 },(storeN k v M1 (n.kids.getD (kidV n.keys key) 0) N).1.2),(storeN k v M1 (n.kids.getD (kidV n.keys key) 0) N).2):=by unfold cutN;rw[h,if_neg (fun h=>h rfl),if_neg u];dsimp only;rw[y,if_neg (fun h=>h rfl),if_pos z]
def qtQ(h:loadN D M k v p=(n,0))(u:¬n.leaf=true)(y:cutN D k v key f M (n.kids.getD (kidV n.keys key) 0)=((N,0),M1))(z:lowN N k v):cutN D k v key (f+1) M p=evenM D k v M1 n (sideOf (kidV n.keys key)) (kidV n.keys key) N:=by unfold cutN sideOf;rw[h,if_neg (fun h=>h rfl),if_neg u];dsimp only;rw[y,if_neg (fun h=>h rfl),if_neg (fun h=>h z)];split<;>rfl
def cutSafe (D:DiskM) (k v:Nat) (key:Key):Nat->PgM->Int->Prop
 | 0,_,_=>False
 | f+1,M,p=>∀n,loadN D M k v p=(n,0)->n.leaf=false->cutSafe D k v key f M (n.kids.getD (kidV n.keys key) 0)/\
  ∀N M1,cutN D k v key f M (n.kids.getD (kidV n.keys key) 0)=((N,0),M1)->lowN N k v->∀ny,loadN D M1 k v (n.kids.getD (sideOf (kidV n.keys key)) 0)=(ny,0)->ny.leaf=N.leaf
end
section
variable {dbk pb j:Nat} {FD S S0 N0 Y Y1 F F' T B By:List Nat} {D:DiskM} {w0 wa w w' w7:World} {M M':PgM} {L:List (Nat×Obj)} {x xy:NdC} {n ny:NodeM} {k v:Nat} {t:Int}
def Ed.more2(e:Ed dbk pb FD D j S0 N0 w0 w (bks L) Y F M x n B)(h:Own T wa w L)(E:TW dbk pb FD D j w7 (By++(bks L++(B++Y))) F' M')(I:NodeB (Zo FD (By++(bks L++(B++Y))) F') w7 xy ny By)(f:Fr F w w7)(G:∀b∈F',b∈F\/w.heap.size<=b)(C:∀c∈By,w.heap.size<=c): Ed dbk pb FD D j S0 N0 w0 w7 (bks L) (By++Y) F' M' x n B/\Own (bks L) w7 w7 L/\Oth FD F' w7 (bks L) (B++(By++Y)) xy ny By:=by
 have y:∀b∈bks L++(B++(By++Y)),b∈By++(bks L++(B++Y)):=fun b u=>by simp only[zD] at u⊢;rcases u with u|u|u|u<;>simp[u]
 obtain⟨e1,z⟩:=e.next h (E.weakY fun b u=>zI _ u) f G
 refine⟨⟨e1.sg,E.weakY y,e.node.frame f (fun b u A=>e.tw.yf b (by simp[u]) A) (fun b u=>.inl (zoF u)) fun b u=>?_,e1.sep,e1.bnew,e1.nsub,fun b u A=>?_⟩,z,I.weak fun b u=>.inl (qbJ y b u),fun b u A=>?_⟩;simp only[Zo,zD,zG] at u⊢;rcases u with (u|u|u|u|u|u)|u;simp[u];simp[u];simp[u];simp[u];exact .inr (C b u);simp[u];exact (G b u).imp (fun h=>.inr h) id;rcases zD.1 A with z|z
 have:=e.node.lt b u;have:=C b z;omega
 exact e.ysep b u z
 have:=qjr h b u;have:=C b A;omega
def Ed.less(e:Ed dbk pb FD D j S0 N0 w0 w T Y F M x n B)(y:∀b∈Y1,b∈Y):Ed dbk pb FD D j S0 N0 w0 w T Y1 F M x n B:=by
 have z:∀b∈T++(B++Y1),b∈T++(B++Y):=fun b u=>by simp only[zD] at u⊢;rcases u with u|u|u;simp[u];simp[u];simp[y b u]
 exact⟨e.sg,e.tw.weakY z,e.node.weak fun b u=>.inl (qbJ z b u),e.sep,e.bnew,e.nsub,fun b u h=>e.ysep b u (y b h)⟩
def qwL(z:TW dbk pb FD D j w (B++(T++Y)) F M)(A:NodeB (Zo FD (B++(T++Y)) F) w x n B)(C:∀b∈T,b∉B)(h:Own T w w' L'): TW dbk pb FD D j w' (B++Y) F M/\NodeB (Zo FD (B++Y) F) w' x n B:=by
 have y:∀b∈T++(B++Y),b∈B++(T++Y):=fun b u=>by rw[zD,zD] at u⊢;rcases u with u|u|u<;>simp[u]
 have o:Oth FD F w T (B++Y) x n B:=⟨A.weak fun b u=>.inl (qbJ y b u),C⟩;exact⟨(TW.now (z.weakY y) h).drop0,(o.now h).node.weak fun b u=>.inl (qff b u)⟩
set_option maxHeartbeats 2000000 in
def qnj{ks:Sl}{key:Key}(ax:IsB key)(al:CapsOk k v):∀(f:Nat) {Y F:List Nat} {w0:World} {M:PgM} {p:Int} {K:NdC×Int->WP} (hT:TW dbk pb FD D j w0 Y F M) (hp:U32 p) (hk:RdB (Zo FD Y F) w0 ks key) (J:cutSafe D k v key f M p) (kk:∀yn B' F' w',((cutN D k v key f M p).1.2=0->ShapeN (cutN D k v key f M p).1.1)->TW dbk pb FD D j w' (B'++Y) F' (cutN D k v key f M p).2->NodeB (Zo FD (B'++Y) F') w' yn (cutN D k v key f M p).1.1 B'->Fr F w0 w'->(∀b∈B',w0.heap.size<=b)->(∀b∈F',b∈F\/w0.heap.size<=b)->K (yn,(cutN D k v key f M p).1.2) w'), cW 110 [.agg (wkV (wkX k v pb t)),.u p,ks.v] [.agg qab,.one .i] w0 K
 | 0,_,_,_,_,_,_,_,_,_,J,_=>J.elim
 | f+1,Y,F,w0,M,p,K,hT,hp,hk,J,kk=>by
  refine qlY ?_;unfold qhB;have h:=oE [] w0;have g:=Sg.start F w0;refine oB h fun r1 w2 _ _ h=>oB h fun r3 w4 _ _ h=>oC h 1 rfl (wkX k v pb t) rfl ?_;rcases O:loadN D M k v p with ⟨n,e0⟩;refine qhc (k:=k) (v:=v) (hT.now0 h) hp fun x B w7 bd aF f7 bf=>?_;rw[O] at aF⊢;dsimp only at aF;obtain⟨e,h⟩:=Ed.load (N0:=[]) (fun _ h=>nomatch h) g h bd aF f7 bf fun b A=>yC (hT.ylt b A) h.fr.size;refine oB h fun r8 w9 _ _ h=>oD h 0 rfl (ndV x) fun bM h _=>?_;have an:∀ {e:Int} {M':PgM} {F':List Nat} {w'},cutN D k v key (f+1) M p=((zeroN,e),M')->e≠0->TW dbk pb FD D j w' Y F' M'->Fr F w0 w'->(∀b∈F',b∈F\/w0.heap.size<=b)->K (zeroX,e) w':=fun he bg bh fr hF=>by
   have:=kk zeroX [] _ _ (fun h=>by rw[he] at h;exact absurd h bg) (by rw[he];exact bh) (by rw[he];exact .zero _ _) fr (fun _ h=>nomatch h) hF
   rw[he] at this;exact this
  apply qaa<;>intro Q;have aA:e0≠0:=by rw[zT] at Q;exact zR.1 Q
  refine oD h 1 rfl (ndV zeroX) fun bP h _=>oC h 1 rfl zeroX rfl ?_;have e:=e.now h;exact an (qvx O aA) aA e.tw'.drop0 e.fr e.sg.new;have bi:e0=0:=by rw[yD] at Q;exact yO.1 Q
  subst bi;have hr:=qeZ O;have sn:=qk2 hr;obtain⟨l1,l2,l3,l4,l5⟩:=qe2 hr;have e:=e.now h;have h:=qao h (.refl _);have aQ:x.1=n.leaf:=e.node.1;refine oA h 0 rfl x.1 rfl ?_;apply qaa<;>intro Q;rw[aQ] at Q;obtain⟨l6,l7⟩:=l4 Q;refine oC h 0 rfl x rfl<|qlh e.nodeR (e.rdb hk) ax hr.2.2.1 oJ fun bU bj=>?_;obtain⟨e,h⟩:=e.next0 h bj;have bV:=qon n.keys key;apply qaa<;>intro R;rw[zT] at R;have aR:=zB R;refine oD h 1 rfl (ndV zeroX) fun bW h _=>oC h 1 rfl zeroX rfl ?_;have e:=e.now h;exact an (qtT O Q aR) oM e.tw'.drop0 e.fr e.sg.new;rw[yD] at R;have aS:=zC R;have aT:=(zP.1 aS).1;have V:=qvy (f:=f) O Q aS;have ew:wrap .i64 ((placeV n.keys key:Int)+1)=((placeV n.keys key+1:Nat):Int):=qbD oJ;rw[V] at kk;have h:=oF h;refine oA h 0 rfl x.2.1 rfl<|oA h 0 rfl x.2.2.1 rfl ?_;have e:=e.now h;dsimp only;refine e.delK h (i:=placeV n.keys key) aT rfl ew oJ fun ah B1 bX e h _=>qaj (h.cell 0 rfl rfl)<|e.delV h (i:=placeV n.keys key) oN rfl ew oN fun ao B2 bY e h _=>oD h 0 rfl (ndV (x.1,ah,x.2.2.1,x.2.2.2)) fun bZ h _=>oD h 0 rfl (ndV (x.1,ah,ao,x.2.2.2)) fun b0 h _=>oC h 0 rfl (x.1,ah,ao,x.2.2.2) rfl<|oD h 1 rfl (ndV (x.1,ah,ao,x.2.2.2)) fun bk h _=>oC h 1 rfl (x.1,ah,ao,x.2.2.2) rfl ?_;have e:=e.now h;have k1:=qf6 aT;have k2:=qf6 (l:=n.vals) (i:=placeV n.keys key) oJ;exact kk (x.1,ah,ao,x.2.2.2) B2 F bk (fun _=>⟨fun _=>by dsimp only;omega,(fun h=>by dsimp only at h;rw[Q] at h;cases h),by dsimp only;omega,by dsimp only;omega,by dsimp only;omega⟩) e.tw.drop0 (e.node.weak fun b A=>.inl (qff b A)) e.fr (fun b A=>(e.bnew b A).elim (fun h=>nomatch h) id) e.sg.new
  ·rw[aQ] at Q;have aG:¬n.leaf=true:=(by rw[Q];decide);obtain⟨l6,l7,l8⟩:=l5 Q;obtain⟨E,U⟩:=J n O Q;refine oC h 0 rfl x rfl<|qpf e.nodeR (e.rdb hk) ax hr.2.2.1 oJ fun b1 bl=>?_;obtain⟨e,h⟩:=e.next0 h bl;have bm:=qj3 n.keys key;have ap:=fun N e1 M1 he=>qtS (key:=key) (f:=f) (N:=N) (e1:=e1) (M1:=M1) O aG he;have R:=fun N M1 he=>qtR (key:=key) (f:=f) (N:=N) (M1:=M1) O aG he;have aH:=fun N M1 he=>qtQ (key:=key) (f:=f) (N:=N) (M1:=M1) O aG he;generalize b2:kidV n.keys key=c at bm E U ap R aH⊢;have aa:c<n.kids.length:=oJ;have bn:n.kids.getD c 0=n.kids[c]:=qd5 aa;rw[bn] at E U ap R aH;have hu:U32 n.kids[c]:=e.node.2.1.2.2 _ (zW aa);rcases ai:cutN D k v key f M n.kids[c] with ⟨⟨N1,e1⟩,M1⟩;have ap:=ap N1 e1 M1 ai;refine⟨?a,?b⟩;case' a=>
    have h:=oF h;have e:=e.now h;refine oC h 2 rfl (wkX k v pb t) rfl<|oA h 0 rfl x.2.2.2 rfl<|Rds.getU e.kidsR c rfl aa fun bp hh=>?_;have hz:=e.fr.size;refine qnj ax al f e.tw hu (e.rdb hk) E fun xx Bx F1 br ak ab G aI ac aJ=>?_;rw[ai] at ak ab G⊢;dsimp only at ak G⊢;obtain⟨e,h,ox⟩:=e.more2 h ab G aI aJ ac;refine oB h fun I bs _ _ h=>qap (hh _ _ (e.now h).kidsR) (h.cell 1 rfl rfl) (h.cells 3 rfl rfl)<|oD h 0 rfl (ndV xx) fun bt h _=>?_;have az:∀b∈Bx,w0.heap.size<=b:=fun b A=>zL hz (ac b A);have ox:=ox.now h;have e:=e.now h;have h:=qao h (.refl _)
   case' b=>
    have h:=oF h;have e:=e.now h;have h:=qao h (.refl _);refine oC h 2 rfl (wkX k v pb t) rfl<|oA h 0 rfl x.2.2.2 rfl<|Rds.getU e.kidsR c rfl aa fun bp hh=>oB h fun I bs _ _ h=>?_;have e:=e.now h;refine qap (hh _ _ e.kidsR) (h.cell 1 rfl rfl) (h.cells 3 rfl rfl) ?_;have hz:=e.fr.size;refine qnj ax al f e.tw hu (e.rdb hk) E fun xx Bx F1 br ak ab G aI ac aJ=>?_;rw[ai] at ak ab G⊢;dsimp only at ak G⊢;obtain⟨e,h,ox⟩:=e.more2 h ab G aI aJ ac;refine oD h 0 rfl (ndV xx) fun bt h _=>?_;have az:∀b∈Bx,w0.heap.size<=b:=fun b A=>zL hz (ac b A);have ox:=ox.now h;have e:=e.now h;have h:=qao h (.refl _)
   all_goals
    apply qaa<;>intro hq;have aB:e1≠0:=by rw[zT] at hq;exact zR.1 hq
    refine oD h 2 rfl (ndV zeroX) fun b3 h _=>oC h 2 rfl zeroX rfl ?_;have e:=e.now h;exact an (ap aB) aB (e.tw'.weakY fun b A=>by simp[A]) e.fr e.sg.new;have bu:e1=0:=by rw[yD] at hq;exact yO.1 hq
    subst bu;have sx:=ak rfl;refine oC h 3 rfl (shX k v) rfl<|oC h 0 rfl xx rfl ?_;have lx:NodeL xx N1:=(ox.node.rd (S:=[]) (fun _ _ h=>(nomatch h)) fun _ h=>nomatch h).lens;refine qxL lx fun ae aX=>?_;obtain⟨e,h⟩:=e.next0 h aX;have ox:=ox.frame0 aX;apply qaa<;>intro aq;have ag:¬lowN N1 k v:=by rw[zT] at aq;exact zB aq
    have V:=R N1 M1 ai ag;rw[V] at kk;have h:=oF h;have e:=e.now h;have ox:=ox.now h;have h:=qao h (.refl _);refine oA h 1 rfl x.2.2.2 rfl<|oC h 3 rfl (wkX k v pb t) rfl<|oA h 1 rfl x.2.2.2 rfl<|Rds.get e.kidsR c rfl (x:=n.kids[c]) (zA aa) (y:=n.kids[c]) rfl<|oC h 0 rfl xx rfl ?_;have z1:=sx.keys;have z2:=sx.vals;have z3:=sx.kids;have bv:NodeR (Zo FD (bks _++(B++Y)) F1) ae.drew xx N1:=ox.node.rd (fun b A C=>by
     have hs:=e.tw.sep b (by simp[A]);rcases zD.1 C with C|C;rcases zD.1 C with C|C;exact hs.1 C;rcases zG.1 C with C|C;exact hs.2 C;rcases zD.1 C with C|C;exact ox.sep b C A;rcases zD.1 C with C|C;exact e.ysep b C (by simp[A])
     have:=az b A;have:=hT.ylt b C;omega
     exact e.tw.yf b (by simp[A]) C) fun b A=>.inl (qbJ (fun b A=>by
     rw[zD,zD] at A⊢;rcases A with A|A|A;exact .inl A;exact .inr (by simp[A]);exact .inr (by simp[A])) b A)
    have e:=e.less (Y1:=Y) fun b A=>zI _ A;refine qbu e.tw bv oJ oJ oJ fun F2 b6 aZ bw bx=>?_;have aK:U32 (storeN k v M1 n.kids[c] N1).1.1:=qbv e.tw.wf hu;obtain⟨e,h⟩:=e.next h aZ bw bx
    generalize storeN k v M1 n.kids[c] N1=st at kk e aK⊢;obtain⟨⟨a1,s1⟩,M2⟩:=st;dsimp only at kk e aK⊢;refine qaj (h.cell 1 rfl rfl)<|e.setI h (i:=c) aa rfl aK fun B2 b7 e h _=>oC h 1 rfl x rfl<|oD h 2 rfl (ndV x) fun bz h _=>oC h 2 rfl x rfl ?_;have e:=e.now h;exact kk x B2 F2 bz (fun _=>⟨(fun h=>by dsimp only at h;rw[Q] at h;cases h),fun _=>by dsimp only;rw[xE];omega,by dsimp only;omega,by dsimp only;omega,by dsimp only;rw[xE];omega⟩) e.tw.drop0 (e.node.weak fun b A=>.inl (qff b A)) e.fr (fun b A=>(e.bnew b A).elim (fun h=>nomatch h) id) e.sg.new;have ag:lowN N1 k v:=by rw[yD] at aq;exact zC aq
    have V:=aH N1 M1 ai ag;have bA:=U N1 M1 ai ag;rw[V] at kk;have e:=e.sub (T1:=[I,r8,r3,r1]) fun b A=>A;have ox:Oth FD F1 ae [I,r8,r3,r1] (B++(Bx++Y)) xx N1 Bx:=ox;have af:∀b∈B++(Bx++([I,r8,r3,r1]++Y)),b∈[I,r8,r3,r1]++(B++(Bx++Y)):=fun b A=>by rw[zD,zD,zD] at A⊢;rcases A with A|A|A|A<;>simp[A]
    have bB:∀b∈Bx,b∉Y:=fun b A C=>by have:=az b A;have:=hT.ylt b C;omega
    have a0:sideOf c+1=c\/c+1=sideOf c:=(by unfold sideOf;split<;>omega);have hs:sideOf c<n.kids.length:=(by unfold sideOf;split<;>omega);have aC:=fun {K':NdC×Int->WP} (bC)=>qvC (t:=t) (pb:=pb) (j:=j) (dbk:=dbk) (Y:=[I,r8,r3,r1]++Y) (K:=K') (e.tw.weakY af) (e.node.weak fun b A=>.inl (qbJ af b A)) (ox.node.weak fun b A=>.inl (qbJ af b A)) (fun b A C=>e.ysep b A (zH _ C)) (fun b A C=>(zD.1 C).elim (fun C=>e.sep b C A) fun C=>e.ysep b A (zI _ C)) (fun b A C=>(zD.1 C).elim (fun C=>ox.sep b C A) (bB b A)) sn sx Q a0 hs aa bA al bC;have a2:=fun h0=>qq8 (D:=D) (M:=M1) (k:=k) (v:=v) (nx:=N1) sn Q a0 hs aa h0;have hS:∀b∈B++(Bx++F1),b∈F\/w0.heap.size<=b:=fun b A=>by rcases zD.1 A with A|A;exact (e.bnew b A).elim (fun h=>nomatch h) .inr;rcases zD.1 A with A|A;exact .inr (az b A);exact e.sg.new b A
    have bD:∀b∈[I,r8,r3,r1],b<ae.heap.size:=fun b A=>e.tw.ylt b (zH _ A);have a3:∀b∈[I,r8,r3,r1],b∉B++(Bx++F1):=fun b A C=>by rcases zD.1 C with C|C;exact e.sep b A C;rcases zD.1 C with C|C;exact ox.sep b A C;exact e.tw.yf b (zH _ A) C
    generalize evenM D k v M1 n (sideOf c) c N1=ev at kk a2 aC;have ar:∀ {z:Int},z=(sideOf c:Int)->(ldA qak ⟨r1,0,none⟩ ae fun a4=>ldA qab ⟨r8,0,none⟩ ae fun a5=>ldA qab ⟨I,0,none⟩ ae fun a6=>
      cW 153 [gAA qak a4,gAA qab a5,Value.int IntKind.i64 z,Value.int IntKind.i64 c,gAA qab a6] [Ty1.agg qab,Ty1.one (Cell.int IntKind.i64)] ae fun aD a7=>
      st ⟨r3,0,none⟩ (HL.mk qab aD.1) a7 fun aE=>ldA qab ⟨r3,0,none⟩ aE fun a8=>K (a8,aD.2) aE):=fun hz=>by
     subst hz;refine oC h 3 rfl (wkX k v pb t) rfl<|oC h 1 rfl x rfl<|oC h 0 rfl xx rfl<|aC fun yn B' F' b' a9 a' ba nB nF=>?_;have h:=qaV h ba a3;refine oD h 2 rfl (ndV yn) fun bE h _=>oC h 2 rfl yn rfl ?_;obtain⟨bF,bG⟩:=qwL (T:=[I,r8,r3,r1]) a9 a' (fun b A C=>(nB b C).elim (e.sep b A) fun h1=>by have:=bD b A;omega) h;exact kk yn B' F' bE a2 bF bG ((e.fr.trans' ba hS).trans' h.fr e.sg.own) (fun b A=>(nB b A).elim (fun h1=>(e.bnew b h1).elim (fun h=>nomatch h) id) fun h1=>zL e.fr.size h1) fun b A=>(nF b A).elim (hS b) fun h1=>.inr (zL e.fr.size h1)
    apply qaa<;>intro aL;have au:0<c:=(by have:=zC aL;omega);refine ar ?_;unfold sideOf;rw[if_pos au,wi' _ oJ];omega;have au:¬0<c:=(by have:=zB aL;omega);refine ar ?_;unfold sideOf;rw[if_neg au,wi' _ oJ];omega
end
end
section
abbrev RtC:=Int×Int×Int
def rtV (x:RtC):Array Value:=#[.u x.1,.u x.2.1,.u x.2.2]
abbrev RT:TypeId:=34
section
variable {S:List Nat} {w:World}
def qnt{h:Nat×Nat}(y:w.heap[vb]?=some (.cells #[elSl ks] T' h))(z:vb∉S)(A:RdB S w ks key):RdK S w ⟨pW vb,1,1⟩ [(ks,key)]:=
 ⟨⟨rfl,zM _,.inr ⟨vb,0,_,T',h,rfl,y,z,fun i x u=>by
  cases i with
  | zero=>cases u;rfl
  | succ i=>simp at u⟩⟩,fun p C=>by rw[zE.1 C];exact A⟩
def qxq{y:Nat×Nat}{a b:Int}(z:w.heap[vb]?=some (.cells #[.u a,.u b] T' y))(A:vb∉S):Rds encU 1 S w ⟨pW vb,2,2⟩ [a,b]:=
 ⟨rfl,zM _,.inr ⟨vb,0,_,T',y,rfl,z,A,fun i x h=>by
  match i,h with
  | 0,h=>cases h;rfl
  | 1,h=>cases h;rfl
  | i+2,h=>simp at h⟩⟩
end
section
variable {dbk pb j:Nat} {FD Y F F' T:List Nat} {D:DiskM} {w0 w w':World} {M M':PgM} {L L':List (Nat×Obj)} {k v:Nat} {t:Int}
def qmE{b:Nat}(h:TW dbk pb FD D j w Y F M)(y:w.heap.size<=b):b∉Zo FD Y F:=fun u=>by have:=h.zlt b u;omega
set_option maxHeartbeats 1000000 in
def qms{f:Nat}{vs:Sl}{val:Key}{K:Int->WP}(ap:IsB key)(aq:IsB val)(hT:TW dbk pb FD D j w0 Y F M)(hk:RdB (Zo FD Y F) w0 ks key)(hv:RdB (Zo FD Y F) w0 vs val)(y:(rootM M t).1≠0->(putN D k v key val f M (rootM M t).1).1.2≠-1)(u:∀F' w',TW dbk pb FD D j w' Y F' (insertN D k v t key val f M).2->Fr F w0 w'->(∀b∈F',b∈F\/w0.heap.size<=b)->K (insertN D k v t key val f M).1 w'): cW 66 [.agg (wkV (wkX k v pb t)),ks.v,vs.v] [.one .i] w0 K:=by
 refine qiX ?_;unfold qeU;have g:=Sg.start F w0;have h:=oE [] w0;obtain⟨u1,u2,u3⟩:=qlP hT.wf t;refine oB h fun r1 w2 _ _ h=>oA h 0 rfl (pW pb) rfl<|oA h 0 rfl t rfl<|TW.root (hT.frame0 h.fr) fun w6 f6=>?_;have h:=h.frame0 f6;unfold insertN at u;generalize rootM M t=E at u y u1 u2 u3⊢;refine oB h fun r7 w8 _ _ h=>oD h 0 rfl (rtV E) fun w9 h _=>oA h 0 rfl E.1 rfl ?_;apply qaa<;>intro hc;have hc:E.1=0:=yO.1 hc;rw[if_pos hc] at u;refine oC h 1 rfl (wkX k v pb t) rfl ?_;have ad:=hT.now0 h;have aK:=qbk hk h;have aL:=qbk hv h;have g:=g.next0 h (.refl [] _);have h:=qao h (.refl _);refine oB h fun ar bh bi au h=>oB h fun av aM bj aN h=>?_;have bd:=au.size;have R:=au.trans aN;have ab:=ad.frame0 R;have aO:=qmE ad (b:=ar) oJ;have aP:=qmE ad (b:=av) oJ;have ae:=qnt (h.at (i:=1) rfl) aO (aK.frame0 R);have aQ:=qnt (h.at (i:=0) rfl) aP (aL.frame0 R);have hx:NodeR _ aM (true,⟨pW ar,1,1⟩,⟨pW av,1,1⟩,⟨none,0,0⟩) (lfOf [(key,val)]):=⟨rfl,⟨fun a V=>by rw[zE.1 V];exact ap,fun a V=>by rw[zE.1 V];exact aq,fun _ h=>nomatch h⟩,⟨_,ae,rfl⟩,⟨_,aQ,rfl⟩,.nil _ _ _ _⟩;refine qbu ab hx (zO rfl) (zO rfl) (zO rfl) fun F1 aS I aw aT=>?_;have g:=g.next h aw aT
 have h:=qaV (h.sub (.cons _ (.cons _ (.refl _)))) aw fun b hb=>ab.yf b (zH _ hb);have hu:U32 (storeN k v M 0 (lfOf [(key,val)])).1.1:=qbv hT.wf qee;unfold rootTo at u;generalize storeN k v M 0 (lfOf [(key,val)])=st at u I hu⊢;obtain⟨⟨q,e⟩,M1⟩:=st;dsimp only at u I hu⊢;apply qaa<;>intro C;have y:e≠0:=by rw[zT] at C;exact zR.1 C
 rw[if_pos y] at u;exact u F1 aS I.drop0 g.tot g.new;have y:¬e≠0:=by rw[yD] at C;exact fun h=>h (yO.1 C)
 rw[if_neg y] at u;exact oA h 1 rfl (pW pb) rfl<|oA h 1 rfl t rfl<|TW.setRoot I hu ⟨oM,oM⟩ ⟨oM,oM⟩ fun aU ax aV=>u F1 aU ax.drop0 (g.tot.trans' aV g.new) g.new;have hc:E.1≠0:=zR.1 hc;rw[if_neg hc] at u;refine oC h 1 rfl (wkX k v pb t) rfl<|oA h 0 rfl E.1 rfl<|qny ap aq f (hT.now0 h) u1 (qbk hk h) (qbk hv h) (y hc) fun gs F1 ay hG G ag az aW=>?_;have g:=g.next h az aW
 have h:=(hT.now0 h).own h az;generalize putN D k v key val f M E.1=pn at u hG G ag⊢;obtain⟨⟨A,e1⟩,M1⟩:=pn;dsimp only at hG G ag⊢;unfold growN at u;dsimp only at u;refine oB h fun aA bl _ _ h=>oD h 0 rfl (grV (grX A gs)) fun aX h _=>?_;apply qaa<;>intro C;have y:e1≠0:=by rw[zT] at C;exact zR.1 C
 rw[if_pos y] at u;exact u F1 aX (G.now h).drop0 (g.fr h) g.new;have y:¬e1≠0:=by rw[yD] at C;exact fun h=>h (yO.1 C)
 rw[if_neg y] at u;refine oA h 0 rfl A.page rfl<|oD h 1 rfl (rtV (A.page,E.2.1,E.2.2)) fun bm h _=>?_;have aB:U32 (if A.fresh then wrap .u32 (E.2.1+1) else E.2.1):=by split;exact qaW _;exact u2
 refine qaf (fun _ w'=>Own [r7,r1] ay w' [(aA,.cells (grV (grX A gs)) GR (0,0)),(r7,.cells (rtV (A.page,(if A.fresh then wrap .u32 (E.2.1+1) else E.2.1),E.2.2)) RT (0,0)),(r1,.cells (wkV (wkX k v pb t)) WK (0,0))]) ?_ ?_;refine oA h 0 rfl A.fresh rfl ?_;apply qaa<;>intro z;rw[if_pos z];refine oA h 1 rfl E.2.1 rfl<|oD h 1 rfl (rtV (A.page,wrap .u32 (E.2.1+1),E.2.2)) fun bn h _=>h;rw[if_neg (by rw[z];decide)];exact h;intro _ aY h;generalize (if A.fresh then wrap .u32 (E.2.1+1) else E.2.1)=Q at u aB h;refine qaf (fun _ w'=>∃(a c:Int) (F2 T:List Nat) (M2:PgM) (wa:World),Sg F w0 wa F2 T/\TW dbk pb FD D j wa (T++Y) F2 M2/\Own T wa w' [(aA,.cells (grV (grX A gs)) GR (0,0)),(r7,.cells (rtV (a,Q,c)) RT (0,0)),(r1,.cells (wkV (wkX k v pb t)) WK (0,0))]/\U32 a/\U32 c/\
  ∀F' w',TW dbk pb FD D j w' Y F' (setRootM M2 t a Q c).2->Fr F w0 w'->(∀b∈F',b∈F\/w0.heap.size<=b)->K (setRootM M2 t a Q c).1 w') ?_ ?_
 refine oA h 0 rfl A.other rfl ?_;apply qaa<;>intro z;have z:A.other≠0:=by rw[zT] at z;exact zR.1 z
 rw[if_pos z] at u;refine oC h 2 rfl (wkX k v pb t) rfl<|oA h 0 rfl gs rfl ?_;have J:=TW.now (T:=[r7,r1]) G h;have ai:=qaM (T:=[r7,r1]) ag h;have g:Sg F w0 aY F1 (bks _):=g.next0 h (.refl [] _);have h:=qao h (.refl _);refine oB h fun aC bo bp aD h=>oA h 1 rfl A.page rfl<|oA h 1 rfl A.other rfl<|oB h fun aE aZ bq a0 h=>?_;have bf:=aD.size;have aF:=aD.trans a0;have ac:=J.frame0 aF;have a1:=qmE J (b:=aC) oJ;have a2:=qmE J (b:=aE) oJ;have ae:=qnt (h.at (i:=1) rfl) a1 (ai.frame0 aF);have a3:=qxq (h.at (i:=0) rfl) a2;have hx:NodeR _ aZ (false,⟨pW aC,1,1⟩,⟨none,0,0⟩,⟨pW aE,2,2⟩) ⟨false,[A.key],[],[A.page,A.other]⟩:=⟨rfl,⟨fun a V=>by rw[zE.1 V];exact hG.key,fun _ h=>(nomatch h),fun a V=>by simp only[zG,xV,or_false] at V;rcases V with rfl|rfl;exact hG.page;exact hG.other⟩,⟨_,ae,rfl⟩,⟨_,.nil _ _,rfl⟩,a3⟩;refine qbu ac hx (zO rfl) (zO rfl) (zO rfl) fun F2 aG O aH a4=>?_;have g:=g.next h aH a4
 have h:=qaV (h.sub (.cons _ (.cons _ (.refl _)))) aH fun b hb=>ac.yf b (zH _ hb);have hu:U32 (storeN k v M1 0 ⟨false,[A.key],[],[A.page,A.other]⟩).1.1:=qbv J.wf qee;unfold rootTo at u;generalize storeN k v M1 0 ⟨false,[A.key],[],[A.page,A.other]⟩=st at u O hu⊢;obtain⟨⟨q,e⟩,M2⟩:=st;dsimp only at u O hu⊢;apply qaa<;>intro U;have y:e≠0:=by rw[zT] at U;exact zR.1 U
 rw[if_pos y] at u;exact u F2 aG O.drop0 g.tot g.new;have y:¬e≠0:=by rw[yD] at U;exact fun h=>h (yO.1 U)
 rw[if_neg y] at u;exact oA h 1 rfl E.2.2 rfl<|oD h 1 rfl (rtV (q,Q,E.2.2)) fun br h _=>oD h 1 rfl (rtV (q,Q,wrap .u32 (E.2.2+1))) fun bs h _=>⟨q,_,F2,_,M2,aG,⟨g.tot,g.new,fun b hb=>g.own b (by simp at hb⊢;rcases hb with h|h|h<;>simp[h])⟩,O,h,hu,qaW _,u⟩;have z:¬A.other≠0:=by rw[yD] at z;exact fun h=>h (yO.1 z)
 rw[if_neg z] at u;exact⟨A.page,E.2.2,F1,[r7,r1],M1,ay,g,G,h,hG.page,u3,u⟩;rintro _ bt ⟨a,c,F2,T,M2,wa,g,a5,h,V,a6,u⟩;exact oA h 2 rfl (pW pb) rfl<|oA h 2 rfl t rfl<|oC h 1 rfl (a,Q,c) rfl<|TW.setRoot (a5.now h) V aB a6 fun a7 aI a8=>u F2 a7 aI.drop0 ((g.fr h).trans' a8 g.new) g.new
end
end
section
section
variable {dbk pb j:Nat} {FD Y F F' T:List Nat} {D:DiskM} {w0 w w':World} {M M':PgM} {L L':List (Nat×Obj)} {k v:Nat} {t:Int}
def Oth.rd{x:NdC}{n:NodeM}{B:List Nat}(o:Oth FD F w T (B++Y) x n B)(z:TW dbk pb FD D j w (T++(B++Y)) F M)(y:∀b∈B,b∉Y):NodeR (Zo FD (T++Y) F) w x n:=
 o.node.rd (fun b h u=>by
  have A:=z.sep b (by simp[h]);simp only[Zo,zD,zG] at u;rcases u with (u|u|u|u)|u;exact A.1 u;exact A.2 u;exact o.sep b u h;exact y b h u;exact z.yf b (by simp[h]) u) fun b h=>.inl (qbJ (fun b h=>by
  rw[zD] at h;simp only[zD];rcases h with h|h;exact .inl h;exact .inr (.inr h)) b h)
def Oth.next{B:List Nat}(o:Oth FD F w T R x n B)(f:Fr F w w')(h:∀b∈B,b∉F)(u:∀b∈F',b∈F\/w.heap.size<=b):Oth FD F' w' T R x n B:=⟨o.node.frame f h (fun b y=>.inl (zoF y)) (TW.znew u),o.sep⟩
def quV{r:Int×Int×Int}{N:NodeM}:shrinkN k v t r ((N,0),M) = if N.leaf=true/\N.keys.length=0 then (if (dropV M r.1).1≠0 then ((dropV M r.1).1,(dropV M r.1).2) else setRootM (dropV M r.1).2 t 0 0 0) else if N.leaf=false/\N.kids.length=1 then (if (dropV M r.1).1≠0 then ((dropV M r.1).1,(dropV M r.1).2) else setRootM (dropV M r.1).2 t (N.kids.getD 0 0) (wrap .u32 (r.2.1-1)) (wrap .u32 (r.2.2-1))) else rootTo t (storeN k v M r.1 N) (wrap .u32 (r.2.1-1)) r.2.2:=by unfold shrinkN;rw[if_neg (fun h=>h rfl)]
set_option maxHeartbeats 1000000 in
def qth{f:Nat}{K:Int->WP}(aC:IsB key)(aj:CapsOk k v)(hT:TW dbk pb FD D j w0 Y F M)(hk:RdB (Zo FD Y F) w0 ks key)(J:cutSafe D k v key f M (rootM M t).1)(A:∀F' w',TW dbk pb FD D j w' Y F' (removeN D k v t key f M).2->Fr F w0 w'->(∀b∈F',b∈F\/w0.heap.size<=b)->K (removeN D k v t key f M).1 w'): cW 71 [.agg (wkV (wkX k v pb t)),ks.v] [.one .i] w0 K:=by
 refine qiY ?_;unfold qeV;have g:=Sg.start F w0;have h:=oE [] w0;obtain⟨u1,u2,u3⟩:=qlP hT.wf t;refine oB h fun r1 w2 _ _ h=>oA h 0 rfl (pW pb) rfl<|oA h 0 rfl t rfl<|TW.root (hT.frame0 h.fr) fun w6 f6=>?_;have h:=h.frame0 f6;unfold removeN at A;generalize rootM M t=C at A J u1 u2 u3⊢;refine oB h fun r7 w8 _ _ h=>oD h 0 rfl (rtV C) fun w9 h _=>oC h 1 rfl (wkX k v pb t) rfl<|oA h 0 rfl C.1 rfl<|qnj aC aj f (hT.now0 h) u1 (qbk hk h) J fun x B F1 am ae O Q an ab aE=>?_;have aF:=qjr h;have a0:=h.fr.size;have g:=g.next h an aE
 have h:=(hT.now0 h).own h an;generalize cutN D k v key f M C.1=cn at A ae O Q⊢;obtain⟨⟨N,e1⟩,M1⟩:=cn;dsimp only at ae O Q⊢;have ao:TW dbk pb FD D j am ([r7,r1]++(B++Y)) F1 M1:=O.weakY fun b u=>by rw[zD,zD] at u;simp only[zD];rcases u with u|u|u;exact .inr (.inl u);exact .inl u;exact .inr (.inr u)
 have o:Oth FD F1 am [r7,r1] (B++Y) x N B:=⟨Q.weak fun b u=>.inl (qbJ (fun b u=>by rw[zD,zD] at u;simp only[zD];rcases u with u|u|u;exact .inr (.inl u);exact .inl u;exact .inr (.inr u)) b u),fun b u hm=>by have:=aF b u;have:=ab b hm;omega⟩;have aH:∀b∈B,b∉Y:=fun b u hm=>by have:=hT.ylt b hm;have:=ab b u;omega
 have E:∀ {T:List Nat},∀b∈T++Y,b∈T++(B++Y):=fun b u=>by rw[zD] at u;simp only[zD];rcases u with u|u;exact .inl u;exact .inr (.inr u)
 refine oB h fun aI a2 _ _ h=>oD h 0 rfl (ndV x) fun aJ h _=>?_;apply qaa<;>intro G;have R:e1≠0:=by rw[zT] at G;exact zR.1 G
 have e:shrinkN k v t C ((N,e1),M1)=(e1,M1):=(by unfold shrinkN;rw[if_pos R]);rw[e] at A;exact A F1 aJ ((TW.now (T:=[r7,r1]) ao h).weakY fun b u=>by simp[u]) (g.fr h) g.new;have aK:e1=0:=(by rw[yD] at G;exact yO.1 G);subst aK;rw[quV] at A;have V:x.1=N.leaf:=o.node.1;have ap:NodeL x N:=(o.node.rd (S:=[]) (fun _ _ h=>(nomatch h)) fun _ h=>nomatch h).lens;have af:U32 (wrap .u32 (C.2.1-1)):=qaW _;refine oA h 1 rfl C.2.1 rfl<|oD h 1 rfl (rtV (C.1,wrap .u32 (C.2.1-1),C.2.2)) fun aq h _=>?_;generalize wrap .u32 (C.2.1-1)=aa at A af h;have z:=TW.now (T:=[r7,r1]) ao h;have o:=o.now h;have g:Sg F w0 aq F1 (bks _):=g.next0 h (.refl [] _);have h:=qao h (.refl _);refine qaf (fun e w'=>∃(a b c:Int) (U T:List Nat) (M2:PgM) (wa:World),Sg F w0 wa U T/\TW dbk pb FD D j wa (T++Y) U M2/\Own T wa w' [(aI,.cells (ndV x) ND (0,0)),(r7,.cells (rtV (a,b,c)) RT (0,0)),(r1,.cells (wkV (wkX k v pb t)) WK (0,0))]/\U32 a/\U32 b/\U32 c/\
  ∀F' w',TW dbk pb FD D j w' Y F' (if e≠0 then (e,M2) else setRootM M2 t a b c).2->Fr F w0 w'->(∀b∈F',b∈F\/w0.heap.size<=b)->K (if e≠0 then (e,M2) else setRootM M2 t a b c).1 w') ?_ ?_
 refine qaf (fun d w'=>d=decide (N.leaf=true/\N.keys.length=0)/\w'=aq) ?_ ?_;refine oA h 0 rfl x.1 rfl ?_;apply qaa<;>intro G;rw[V] at G;refine oA h 0 rfl x.2.1 rfl ⟨?_,rfl⟩;rw[ap.keys,Bool.eq_iff_iff,yO,yM];exact⟨fun h=>⟨G,oJ⟩,fun h=>by rw[h.2];rfl⟩;rw[V] at G;exact⟨(zU fun h=>by rw[G] at h;exact absurd h.1 oM).symm,rfl⟩;rintro d aL ⟨rfl,rfl⟩;apply qaa<;>intro hd;have hd:=zC hd;rw[if_pos hd] at A;refine oA h 2 rfl (pW pb) rfl<|oA h 1 rfl C.1 rfl<|TW.drop (z.weakY E) fun U aM ar au aN=>?_;have g:=g.next h au aN
 have h:=TW.own (z.weakY E) h au;exact oD h 1 rfl (rtV (0,0,0)) fun a3 h _=>⟨0,0,0,U,_,_,aM,g,ar,h,qee,qee,qee,A⟩;have hd:=zB hd;rw[if_neg hd] at A;refine qaf (fun d w'=>d=decide (N.leaf=false/\N.kids.length=1)/\w'=aL) ?_ ?_;refine oA h 0 rfl x.1 rfl ?_;apply qaa<;>intro G;rw[V,zT] at G;refine oA h 0 rfl x.2.2.2 rfl ⟨?_,rfl⟩;rw[ap.kids,Bool.eq_iff_iff,yO,yM];exact⟨fun h=>⟨G,oJ⟩,fun h=>by rw[h.2];rfl⟩;rw[V,yD] at G;exact⟨(zU fun h=>by rw[G] at h;exact absurd h.1 oM).symm,rfl⟩;rintro d a4 ⟨rfl,rfl⟩;apply qaa<;>intro I;have I:=zC I;rw[if_pos I] at A;have ah:0<N.kids.length:=oJ;rw[qd5 ah] at A;have aO:U32 N.kids[0]:=o.node.2.1.2.2 _ (zW ah);refine oA h 2 rfl (pW pb) rfl<|oA h 1 rfl C.1 rfl<|TW.drop z fun U aP av ai aw=>?_;have g:=g.next h ai aw
 have o:=o.next ai (fun b u=>z.yf b (by simp[u])) aw
 have h:=TW.own z h ai;have h:=oF h;refine oA h 0 rfl x.2.2.2 rfl ?_;have oR:NodeR [] _ x N:=(o.now h).node.rd (S:=[]) (fun _ _ h=>(nomatch h)) fun _ h=>nomatch h;exact Rds.get oR.2.2.2.2 0 rfl (x:=N.kids[0]) (zA ah) (y:=N.kids[0]) rfl<|oA h 1 rfl C.2.2 rfl<|oD h 1 rfl (rtV (N.kids[0],aa,C.2.2)) fun a6 h _=>oD h 1 rfl (rtV (N.kids[0],aa,wrap .u32 (C.2.2-1))) fun a7 h _=>⟨_,_,_,U,_,_,aP,g,av.weakY E,h,aO,af,qaW _,A⟩;have I:=zB I;rw[if_neg I] at A;have sx:=ae rfl;have z1:=sx.keys;have z2:=sx.vals;have z3:=sx.kids;refine oC h 2 rfl (wkX k v pb t) rfl<|oA h 1 rfl C.1 rfl<|oC h 0 rfl x rfl<|qbu (z.weakY E) (o.rd z aH) oJ oJ oJ fun U aR ad ax aS=>?_;have ay:U32 (storeN k v M1 C.1 N).1.1:=qbv z.wf u1;have g:=g.next h ax aS
 have h:=TW.own (z.weakY E) h ax;unfold rootTo at A;generalize storeN k v M1 C.1 N=st at A ad ay⊢;obtain⟨⟨q,e2⟩,M2⟩:=st;exact oD h 1 rfl (rtV (q,aa,C.2.2)) fun a8 h _=>⟨q,aa,C.2.2,U,_,M2,aR,g,ad,h,ay,af,u3,A⟩;rintro e aT ⟨a,b,c,U,T,M2,wa,g,az,h,ua,ub,uc,A⟩;apply qaa<;>intro I;have R:e≠0:=by rw[zT] at I;exact zR.1 I
 rw[if_pos R] at A;exact A U aT (az.now h).drop0 (g.fr h) g.new;have R:¬e≠0:=by rw[yD] at I;exact fun h=>h (yO.1 I)
 rw[if_neg R] at A;exact oA h 2 rfl (pW pb) rfl<|oA h 2 rfl t rfl<|oC h 1 rfl (a,b,c) rfl<|TW.setRoot (az.now h) ua ub uc fun aU aA aV=>A U aU aA.drop0 ((g.fr h).trans' aV g.new) g.new
end
end
end
section
open Go Go.Pt List
open Go.IntKind (wrap)
open Classical
def qur{S:Type}{B:(S->WP)->S->WP}(I:Nat->S->WP)(z:∀f s w (X:S->WP),I f s w->(∀u y w',u<f->I u y w'->X y w')->B X s w):∀(f:Nat) {s:S} {w:World},I f s w->loop S B s w:=fun f=>by
 induction f using Nat.strongRecOn with
 | ind f ih=>exact fun {s w} h=>qc0 fun X A=>z f s w X h fun u y w' C E=>A _ _ (ih u C E)
attribute [local irreducible] ld ldA ldV fld fldA newZ st new idx idxS idxA slc slcS slcP mkS chk nn call callV inv run runQ runU join loop held ext rng undefer s2a nxt ent IntKind.wrap
noncomputable def getN (D:DiskM) (k v:Nat) (key:Key) (M:PgM):Nat->Int->Key×Int
 | 0,p=>if p=0 then ([],5) else ([],-1)
 | f+1,p=>if p=0 then ([],5)
  else if (loadN D M k v p).2≠0 then ([],(loadN D M k v p).2)
  else if (loadN D M k v p).1.leaf then
   if (loadN D M k v p).1.keys[placeV (loadN D M k v p).1.keys key]?=some key then ((loadN D M k v p).1.vals.getD (placeV (loadN D M k v p).1.keys key) [],0) else ([],5)
  else getN D k v key M f ((loadN D M k v p).1.kids.getD (kidV (loadN D M k v p).1.keys key) 0)
section
variable {dbk pb j:Nat} {FD Y F F' T:List Nat} {D:DiskM} {w0 w w':World} {M M':PgM} {k v:Nat} {t:Int}
def qrD{f:Nat}{ks:Sl}{key:Key}{K:Sl×Int->WP}(ac:IsB key)(hs:shp t=((k:Int),(v:Int)))(ar:k≠0)(aU:key.length=k)(hT:TW dbk pb FD D j w0 Y F M)(hk:RdB (Zo FD Y F) w0 ks key)(J:(getN D k v key M f (rootM M t).1).2≠-1)(kk:∀s w',(∀G:List Nat,(∀b∈G,b<w0.heap.size)->RdB G w' s (getN D k v key M f (rootM M t).1).1)->Fr [] w0 w'->K (s,(getN D k v key M f (rootM M t).1).2) w'): cW 37 [.pointer (pW pb),.i t,ks.v] [.one .slice,.one .i] w0 K:=by
 refine qlb ?_;unfold qjP;have aM:=hk.1;refine qfi (k:=k) (v:=v) hs (fun h=>absurd h ar) (fun _ h=>absurd oJ h) fun _ _ w2 f2=>?_;have h:=(oE [] w0).frame0 f2;refine oB h fun r3 w4 _ _ h=>oD h 0 rfl (wkV (wkX k v pb t)) fun w5 h _=>cond_false rfl<|TW.root (hT.frame0 h.fr) fun w7 f7=>?_;have h:=h.frame0 f7;have hu:=(qlP hT.wf t).1;generalize rootM M t=rt at kk J hu⊢;generalize ae:getN D k v key M f rt.1=af at kk J;refine qaf (fun _ w'=>af=([],5)/\Fr [] w0 w') ?_ ?_
 ·refine qur (fun f s w'=>getN D k v key M f s=af/\U32 s/\Own [] w0 w' [(r3,.cells (wkV (wkX k v pb t)) WK (0,0))]) ?_ f ⟨ae,hu,h⟩;rintro f s aZ X ⟨u,aw,h⟩ hX;apply qaa<;>intro R
  ·have O:s≠0:=(by rw[zT] at R;exact zR.1 R);cases f with
   | zero=>
    unfold getN at u;rw[if_neg O] at u;rw[<- u] at J;exact absurd rfl J
   | succ f=>
   unfold getN at u;rw[if_neg O] at u;refine oC h 0 rfl (wkX k v pb t) rfl ?_;rcases U:loadN D M k v s with ⟨n,e0⟩;rw[U] at u;dsimp only at u;refine qhc (k:=k) (v:=v) (hT.frame0 h.fr) aw fun x B ax aO z ay aP=>?_;rw[U] at z⊢;dsimp only at z⊢;have I:NodeR [] ax x n:=z.rd (fun _ _ h=>(nomatch h)) fun _ h=>nomatch h;have h:=h.frame0 ay;have aQ:=h.fr;refine oB h fun ag az a1 aA h=>?_;have I:NodeR [ag] az x n:=(I.weak (S':=[ag]) fun b hb=>by rw[zE.1 hb];exact .inr oJ).frame0 aA;refine oD h 0 rfl (ndV x) fun ah h aC=>?_;have I:=I.frame aC fun b hb=>.inl hb;apply qaa<;>intro A;have ai:e0≠0:=by rw[zT] at A;exact zR.1 A
   rw[if_pos ai] at u;subst u;exact kk ⟨none,0,0⟩ ah (fun _ _=>.nil _ _ _ _) h.fr;have aD:e0=0:=by rw[yD] at A;exact yO.1 A
   subst aD;rw[if_neg (fun h=>h rfl)] at u;have hr:=qeZ U;obtain⟨l1,l2,l3,l4,l5⟩:=qe2 hr;have aj:x.1=n.leaf:=I.1;refine oA h 0 rfl x.1 rfl ?_;apply qaa<;>intro C;have E:n.leaf=false:=(by rw[aj,zT] at C;exact C);rw[if_neg (by rw[E];decide)] at u;obtain⟨l6,l7,l8⟩:=l5 E;have aR:=qj3 n.keys key;have fd:=(Fr.refl [] ah).drew;have h:=oF h;refine oA h 0 rfl x.2.2.2 rfl<|oC h 0 rfl x rfl<|qpf (I.frame0 fd) (hk.frame0 h.fr) ac hr.2.2.1 oJ fun aE ak=>?_;have h:=h.frame0 ak;refine qaj (h.cell 0 rfl rfl) ?_;have V:kidV n.keys key<n.kids.length:=oJ;refine Rds.get ((I.frame0 fd).frame0 ak).2.2.2.2 (kidV n.keys key) rfl (zA V) (y:=n.kids[kidV n.keys key]) rfl ?_;rw[qd5 V] at u;exact hX f _ aE (Nat.lt_succ_self f) ⟨u,I.2.1.2.2 _ (zW V),h.sub (sublist_cons_self _ _)⟩;have E:n.leaf=true:=(by rw[aj,yD] at C;exact C);rw[if_pos E] at u;obtain⟨l6,l7⟩:=l4 E;refine oC h 0 rfl x rfl<|qlh I (hk.frame0 h.fr) ac hr.2.2.1 oJ fun a6 al=>?_;have h:=h.frame0 al;apply qaa<;>intro aa;have am:=zC aa;rw[if_pos am] at u;have a7:=(zP.1 am).1;obtain⟨pv,an,ab⟩:=(I.frame0 al).2.2.2.1;have Q:placeV n.keys key<pv.length:=by
    have:=congrArg List.length ab
    rw[zK] at this;omega
   refine oA h 0 rfl x.2.2.1 rfl<|RdK.get an (placeV n.keys key) rfl Q ?_;have ao:n.vals.getD (placeV n.keys key) []=pv[placeV n.keys key].2:=(by rw[<- ab,qdU Q]);rw[ao] at u;have aF:pv[placeV n.keys key].2.length<=1000000:=by have h1:=hr.2.1 pv[placeV n.keys key].2 (by rw[<- ab];exact zY (zW Q));have h2:=ql4 (k:=k) (v:=v) oJ;omega
   refine qgV (an.2 _ (zW Q)) aF fun s' B' aG aH aI aJ _ _=>?_;subst u;have a9:=h.fr.size;exact kk s' aG (fun G hG=>aH.rds qas fun c R hm=>by have:=aJ c R;have:=hG c hm;omega) (h.fr.trans aI);have ap:=zB aa;rw[if_neg ap] at u;exact⟨u.symm,h.fr⟩
  have O:s=0:=(by rw[yD] at R;exact yO.1 R);refine⟨?_,h.fr⟩;rw[<- u];cases f<;>(unfold getN;rw[if_pos O])
 rintro _ aK ⟨rfl,aL⟩;exact kk ⟨none,0,0⟩ aK (fun _ _=>.nil _ _ _ _) aL
def qxj{r h:Int}(u:0<=r)(y:0<=h/\h<=1000000)(z:2*h.toNat+1<=r.toNat):decide (r>wrap .i64 (2*wrap .i64 h))=true:=by rw[wi' h oJ,wi' (2*h) oJ];exact zZ oJ
def qwB{ks vs:Sl}{key val:Key}{f:Nat}{K:Int->WP}(I:IsB key)(J:IsB val)(hs:shp t=((k:Int),(v:Int)))(O:k≠0)(ag:key.length=k)(Q:val.length=v)(hT:TW dbk pb FD D j w0 Y F M)(hk:RdB (Zo FD Y F) w0 ks key)(hv:RdB (Zo FD Y F) w0 vs val)(R:0<=(rootM M t).2.2/\(rootM M t).2.2<=1000000)(U:2*(rootM M t).2.2.toNat+1<=M.free.length)(V:(rootM M t).1≠0->(putN D k v key val f M (rootM M t).1).1.2≠-1)(kk:∀F' w',TW dbk pb FD D j w' Y F' (insertN D k v t key val f M).2->Fr F w0 w'->(∀b∈F',b∈F\/w0.heap.size<=b)->K (insertN D k v t key val f M).1 w'): cW 28 [.pointer (pW pb),.i t,ks.v,vs.v] [.one .i] w0 K:=by refine qgT ?_;unfold qgz;have aj:=hk.1;have aa:=hv.1;have g:=Sg.start F w0;have h:=oE [] w0;refine oB h fun r1 w2 _ _ h=>oB h fun r3 w4 _ _ h=>oA h 1 rfl ks rfl<|qfi (k:=k) (v:=v) hs (fun h=>absurd h O) (fun _ h=>absurd oJ h) fun _ _ w7 f7=>?_;have h:=h.frame0 f7;refine oB h fun r8 w9 _ _ h=>oD h 0 rfl (wkV (wkX k v pb t)) fun ab h _=>cond_false rfl<|oA h 1 rfl vs rfl<|oA h 0 rfl (v:Int) rfl<|cond_false (by rw[aa,Q];simp)<|oC h 0 rfl (wkX k v pb t) rfl ?_;have u:=hT.now0 h;have z:=qbk hk h;have A:=qbk hv h;have g:Sg F w0 ab F (bks _):=g.next0 h (.refl [] _);have h:=qao h (.refl _);refine qex ?_;unfold qcN;refine oB h fun q1 an _ _ h=>?_;have h:=oF h;refine oA h 0 rfl (pW pb) rfl<|oA h 0 rfl (pW pb) rfl<|oA h 0 rfl t rfl<|TW.room (u.now h)<|qan (h.cell 0 rfl rfl) (h.cell 0 rfl rfl)<|TW.root (u.now h) fun ao y=>?_;have C:=(u.now h).frame0 y;have E:=(qaM z h).frame0 y;have G:=(qaM A h).frame0 y;have g:=g.next0 h y;have h:=qaV h y fun _ _ h=>nomatch h;refine cond_true (qxj oJ R oJ)<|qbc (lb:=[.pointer (pW r8),.pointer (pW r1),.pointer (pW r3)]) rfl oK<|qhA ?_;unfold qfI;exact oC h 1 rfl (wkX k v pb t) rfl<|oA h 3 rfl ks rfl<|oA h 2 rfl vs rfl<|qms I J C E G V fun F' w' ac f' n'=>kk F' w' ac.drop0 (g.tot.trans' f' g.new) fun b hb=>(n' b hb).elim (g.new b) fun h1=>.inr (zL g.tot.size h1)
end
end
section
open Go Go.Pt List
open Go.IntKind (wrap)
open Classical
variable {L:Prs} {P:List Int} {key val:Key} {t:Int}
def getP (key:Key) (L:Prs):Option Key:=(L.find? fun x=>decide (x.1=key)).map (·.2)
def qlu{A B:Prs}:getP key (A++B)=match getP key A with|some v=>some v|none=>getP key B:=by unfold getP;rw[List.find?_append];cases A.find? (fun x=>decide (x.1=key))<;>rfl
def qcW(h:∀x∈L,x.1≠key):getP key L=none:=by unfold getP;rw[List.find?_eq_none.2 fun x u=>by simp[h x u]];rfl
def qn1(h:key∈keysP L):∃v,getP key L=some v:=by
 unfold getP;obtain⟨x,u,rfl⟩:=mem_map.1 h;cases e:L.find? (fun y=>decide (y.1=x.1)) with
 | none=>exact absurd (List.find?_eq_none.1 e x u) oL
 | some y=>exact⟨y.2,rfl⟩
section
variable {D:DiskM} {M M':PgM} {k v:Nat} {key:Key}
def Has.get:∀ {h:Nat} {s:Seg},Has D M k v h s->s.page≠0->M.Wf->M.over=false->getN D k v key M (h+1) s.page=match getP key s.prs with|some x=>(x,0)|none=>([],5)
 | 0,s,hs,V,hW,ho=>by
  obtain⟨h1,h2,Q,h4⟩:=hs;have hl:loadN D M k v s.page=(lfOf s.prs,0):=Q.load h4;have R:SortP s.prs:=Q.right.2.2.1;have ag:(lfOf s.prs).keys=keysP s.prs:=rfl;unfold getN;rw[if_neg V,hl];dsimp only;rw[if_neg (fun h=>h rfl),if_pos (show (lfOf s.prs).leaf=true from rfl),ag];by_cases hm:(keysP s.prs)[placeV (keysP s.prs) key]?=some key
  ·rw[if_pos hm];have hi:placeV (keysP s.prs) key<s.prs.length:=by
    have:=(zP.1 hm).1
    simpa using this
   have ah:=qd7 (k:=key) R;have U:s.prs=s.prs.take (placeV (keysP s.prs) key)++s.prs[placeV (keysP s.prs) key]::s.prs.drop (placeV (keysP s.prs) key+1):=by rw[getElem_cons_drop,xC]
   have E:s.prs[placeV (keysP s.prs) key].1=key:=(by rw[zQ,zA hi] at hm;simpa using hm);have hg:getP key s.prs=some s.prs[placeV (keysP s.prs) key].2:=by
    conv=>lhs;rw[U]
    rw[qlu,qcW fun x u=>qha (ah.1 x u)];unfold getP;rw[List.find?_cons_of_pos (by simp[E])];rfl
   rw[hg];show ((List.map (·.2) s.prs).getD _ [],(0:Int))=_;rw[yQ,zQ,zA hi];rfl
  rw[if_neg hm];have hn:key∉keysP s.prs:=fun h=>hm ((qcj R).2 h);rw[qcW fun x u e=>hn (by rw[<- e];exact zY u)]
 | h+1,⟨p,n,L,P⟩,⟨O,h0,h1,h2,Q,h4,h5,h6,h7⟩,V,hW,ho=>by
  dsimp only at h1 h2 Q h5 V;subst h1 h2 Q;have hl:loadN D M k v p=(inOf O,0):=h4.load h5;obtain⟨A,e,B,G,hA,E,ai,I⟩:=qh2 (key:=key) h0 h6;have J:(inOf O).kids.getD (kidV (inOf O).keys key) 0=e.2.page:=I;have aj:e∈O:=(by rw[G];simp);obtain⟨K,_⟩:=h7 e aj;have ax:=qba hW (K.used ho e.2.page K.mem);unfold getN;rw[if_neg V,hl];dsimp only;rw[if_neg (fun h=>h rfl),if_neg (show ¬(inOf O).leaf=true from fun e=>nomatch e),J,K.get oJ hW ho];have C:=h6;rw[G] at C;have y:=C.mid;have z:O.flatMap (·.2.prs)=A.flatMap (·.2.prs)++(e.2.prs++B.flatMap (·.2.prs)):=(by rw[G,qaL]);have ak:∀x∈A.flatMap (·.2.prs),x.1≠key:=fun x u=>by obtain⟨a,ha,u⟩:=yJ.1 u;exact qha (qbq (y.1 a ha x u) E)
  have al:∀x∈B.flatMap (·.2.prs),x.1≠key:=fun x u=>by obtain⟨b,hb,u⟩:=yJ.1 u;exact (qha (qbq (ai b hb) ((y.2 b hb).2.2 x u))).symm
  rw[z,qlu,qcW ak,qlu,qcW al];cases getP key e.2.prs<;>rfl
def Has.safe(hc:CapsOk k v):∀(h:Nat) (M:PgM) (s:Seg),Has D M k v h s->M.Wf->M.over=false->s.pages.Nodup->key∈keysP s.prs->2*h<=M.free.length->cutSafe D k v key (h+1) M s.page
 | 0,M,s,hs,hW,ho,V,G,hf=>fun n hn hl=>by have aa:loadN D M k v s.page=(lfOf s.prs,0):=hs.2.2.1.load hs.2.2.2;rw[aa] at hn;cases hn;cases hl
 | h+1,M,⟨p,n,L,P⟩,⟨C,h0,h1,h2,h3,h4,h5,h6,h7⟩,hW,ho,V,G,hf=>fun n' hn hl=>by
  dsimp only at h1 h2 h3 h5 V G hn;subst h1 h2 h3;have aq:loadN D M k v p=(inOf C,0):=h4.load h5;rw[aq] at hn;cases hn;obtain⟨A,e,B,z,hA,ar,au,ab⟩:=qh2 (key:=key) h0 h6;have ac:(inOf C).kids.getD (kidV (inOf C).keys key) 0=e.2.page:=ab;have av:kidV (inOf C).keys key=A.length:=hA.symm;have aw:e∈C:=(by rw[z];simp);obtain⟨ai,ax⟩:=h7 e aw;have ad:C.flatMap (·.2.pages)=A.flatMap (·.2.pages)++(e.2.pages++B.flatMap (·.2.pages)):=(by rw[z,qaL]);have K:C.flatMap (·.2.prs)=A.flatMap (·.2.prs)++(e.2.prs++B.flatMap (·.2.prs)):=(by rw[z,qaL]);have O:(A.flatMap (·.2.pages)++(e.2.pages++B.flatMap (·.2.pages))).Nodup:=(by rw[<- ad];exact (nodup_cons.1 V).2);have Q:e.2.pages.Nodup:=(yL.1 (yL.1 O).2.1).1;have R:=h6;rw[z] at R;have I:=R.mid;have J:key∈keysP e.2.prs:=by obtain⟨x,y,rfl⟩:=mem_map.1 G;rw[K] at y;rcases zD.1 y with y|y;obtain⟨a,ha,y⟩:=yJ.1 y;exact absurd (qbq (I.1 a ha x y) ar) qaD;rcases zD.1 y with y|y;exact zY y;obtain⟨b,E,y⟩:=yJ.1 y;exact absurd (qbq (au b E) ((I.2 b E).2.2 x y)) qaD
  obtain⟨N1,n1,M1,Re,aV,ec,ay,aj,st,aX,aY⟩:=treeCut hc h M e.2 ai hW ho Q J oJ;rw[ac];refine⟨ai.safe hc h M e.2 hW ho Q J oJ,fun N M2 U aO ny ae=>?_⟩;rw[ec] at U;cases U;have az:N1.leaf=decide (h=0):=by
   cases h with
   | zero=>rw[aj.1];rfl
   | succ h=>obtain⟨aZ,_,h',_⟩:=aj;rw[h'];rfl
  have u:∀b,(b∈A\/b∈B)->(inOf C).kids.getD (sideOf (kidV (inOf C).keys key)) 0=b.2.page->ny.leaf=N1.leaf:=fun b E aA=>by
   rw[aA] at ae;have aB:b∈C:=by rw[z];rcases E with E|E<;>simp[E]
   obtain⟨ak,_⟩:=h7 b aB;have al:Has D M1 k v h b.2:=ak.frame fun x y=>(st.rest x (ak.used ho x y) fun hm=>by have am:x∈e.2.pages:=(by rw[ay];exact zN _ hm);have hd:=yL.1 O;have aC:=yL.1 hd.2.1;rcases E with E|E;exact hd.2.2 x (yJ.2 ⟨b,E,y⟩) x (zH _ am) rfl;exact aC.2.2 x am x (yJ.2 ⟨b,E,y⟩) rfl).1;obtain⟨N2,R2,aa,_,_,an,_⟩:=al.load;rw[aa] at ae;cases ae;rw[an,az]
  have h2:=h4.right.innerTwo.1;rw[av] at u;have aD:(inOf C).kids=C.map (·.2.page):=rfl;rw[aD] at u;by_cases hA0:A.length>0;have hs:sideOf A.length=A.length-1:=(by unfold sideOf;rw[if_pos hA0]);obtain⟨A',b,rfl⟩:∃A' b,A=A'++[b]:=⟨A.dropLast,A.getLast (length_pos_iff.1 hA0),(dropLast_concat_getLast _).symm⟩;refine u b (.inl oL) ?_;rw[hs,z];simp[yQ];have hs:sideOf A.length=A.length+1:=(by unfold sideOf;rw[if_neg hA0]);have aE:A=[]:=eq_nil_of_length_eq_zero oJ;subst aE;cases B with
  | nil=>rw[z] at h2;simp at h2
  | cons b B=>
   refine u b (.inr oL) ?_;rw[hs,z];rfl
def TreeIs.get{t:Int}{L:Prs}{P:List Int}(y:TreeIs D M k v t L P)(z:M.Wf)(A:M.over=false):getN D k v key M (rootM M t).2.2.toNat (rootM M t).1=match getP key L with|some x=>(x,0)|none=>([],5):=by rcases y with ⟨e0,rfl,rfl⟩|⟨h,n,p,u,C,E⟩;rw[e0];rfl;rw[C];dsimp only;rw[zJ];exact E.get u z A
def TreeIs.safe(z:CapsOk k v){t:Int}{L:Prs}{P:List Int}(A:TreeIs D M k v t L P)(u:key∈keysP L)(C:M.Wf)(E:M.over=false)(G:P.Nodup)(y:2*(rootM M t).2.2.toNat+1<=M.free.length):cutSafe D k v key (rootM M t).2.2.toNat M (rootM M t).1:=by rcases A with ⟨e0,rfl,rfl⟩|⟨h,n,p,I,J,K⟩;cases u;rw[J] at y⊢;dsimp only at y⊢;rw[zJ] at y⊢;exact K.safe z h M _ C E G u oJ
def qrg{f:Nat}{M':PgM}(h:insertN D k v t key val f M=(0,M')):(rootM M t).1≠0->(putN D k v key val f M (rootM M t).1).1.2≠-1:=fun y u=>by unfold insertN at h;rw[if_neg y] at h;unfold growN at h;rw[if_pos (by rw[u];decide),u] at h;cases h
end
section
def exM:Nat->Nat->List Int
 | _,0=>[]
 | b,c+1=>(b:Int)::exM (b+1) c
def qb0{x:Int}:∀ {c b:Nat},x∈exM b c↔(b:Int)<=x/\x<(b:Int)+c
 | 0,b=>by rw[exM];constructor;intro h;cases h;omega
 | c+1,b=>by rw[exM,zG,qb0 (c:=c) (b:=b+1)];omega
def qmg:∀ {c b:Nat},(exM b c).Pairwise (· < ·)
 | 0,b=>.nil
 | c+1,b=>yI.2 ⟨fun x h=>by have:=(qb0.1 h).1;omega,qmg⟩
def qg6:∀ {c b:Nat},(exM b c).length=c
 | 0,b=>rfl
 | c+1,b=>congrArg (·+1) qg6
def qr0{b c:Nat}{n:Int}(h:n<b):∀l:List Int,ins n (l++exM b c)=ins n l++exM b c
 | []=>by
  cases c with
  | zero=>rfl
  | succ c=>
   show (if n<(b:Int) then n::(b:Int)::exM (b+1) c else _)=_;rw[if_pos h];rfl
 | a::l=>by show ins n (a::(l++exM b c))=_;rw[ins,ins];split;rfl;split;rfl;rw[qr0 h l];rfl
def qp2{β:Type}{n x:Int}{v:β}{l:List (Int×β)}(h:x∈(setL n v l).map (·.1)):x=n\/x∈l.map (·.1):=Classical.byContradiction fun u=>
 qcs.1 (by rw[qgj,if_neg (not_or.1 u).1,qcs.2 (not_or.1 u).2]) h
def qvO{β:Type}{n x:Int}{l:List (Int×β)}(h:x∈(delL n l).map (·.1)):x∈l.map (·.1):=by unfold delL at h;split at h;obtain⟨e,u,rfl⟩:=mem_map.1 h;exact zY (mem_of_mem_eraseIdx u);exact h
def extM (b c:Nat) (M:PgM):PgM:={ M with sup:=(M.sup.1,M.sup.2.set 0 ((b:Int)+c)),named:=M.named++exM b c,free:=M.free++exM b c }
structure Gd (N:PgM) (b:Nat) (M:PgM):Prop where
 over:M.over=false
 sup:M.sup=N.sup
 lists:M.lists=N.lists
 named:M.named=N.named
 turn:M.turn=N.turn
 blk:N.sup.2.getD 0 0=(b:Int)/\2<=b
 free:∀ x∈M.free,x<(b:Int)
 fresh:∀ x∈M.fresh.map (·.1),x<(b:Int)
def Sm {α:Type} (N:PgM) (b c:Nat) (r h:(α×Int)×PgM):Prop:=Gd N b r.2/\(r.1.2=6\/h=(r.1,extM b c r.2))
def Sq (N:PgM) (b c:Nat) (r h:Int×PgM):Prop:=Gd N b r.2/\(r.1=6\/h=(r.1,extM b c r.2))
section
variable {α β:Type} {N:PgM} {b c:Nat}
def Sm.ite{p:Prop}[Decidable p]{A u B B':(α×Int)×PgM}(y:p->Sm N b c A u)(z:¬p->Sm N b c B B'):Sm N b c (if p then A else B) (if p then u else B'):=by by_cases h:p;rw[if_pos h,if_pos h];exact y h;rw[if_neg h,if_neg h];exact z h
def Sq.ite{p:Prop}[Decidable p]{A u B B':Int×PgM}(y:p->Sq N b c A u)(z:¬p->Sq N b c B B'):Sq N b c (if p then A else B) (if p then u else B'):=by by_cases h:p;rw[if_pos h,if_pos h];exact y h;rw[if_neg h,if_neg h];exact z h
def Sm.err{r u:(α×Int)×PgM}{z:β}{X X':(β×Int)×PgM}(h:Sm N b c r u)(k:u=(r.1,extM b c r.2)->Gd N b r.2->Sm N b c X X'):Sm N b c (if r.1.2≠0 then ((z,r.1.2),r.2) else X) (if u.1.2≠0 then ((z,u.1.2),u.2) else X'):=by rcases h with ⟨g,y|rfl⟩;rw[if_pos (by rw[y];decide)];exact⟨g,.inl y⟩;exact Sm.ite (fun _=>⟨g,.inr rfl⟩) fun _=>k rfl g
def Sm.errq{r u:(α×Int)×PgM}{X X':Int×PgM}(h:Sm N b c r u)(k:u=(r.1,extM b c r.2)->Gd N b r.2->Sq N b c X X'):Sq N b c (if r.1.2≠0 then (r.1.2,r.2) else X) (if u.1.2≠0 then (u.1.2,u.2) else X'):=by rcases h with ⟨g,y|rfl⟩;rw[if_pos (by rw[y];decide)];exact⟨g,.inl y⟩;exact Sq.ite (fun _=>⟨g,.inr rfl⟩) fun _=>k rfl g
def Sq.errq{r u:Int×PgM}{X X':Int×PgM}(h:Sq N b c r u)(k:u=(r.1,extM b c r.2)->Gd N b r.2->Sq N b c X X'):Sq N b c (if r.1≠0 then (r.1,r.2) else X) (if u.1≠0 then (u.1,u.2) else X'):=by rcases h with ⟨g,y|rfl⟩;rw[if_pos (by rw[y];decide)];exact⟨g,.inl y⟩;exact Sq.ite (fun _=>⟨g,.inr rfl⟩) fun _=>k rfl g
def Sm.map{r u:(α×Int)×PgM}(h:Sm N b c r u)(F:α->β):Sm N b c ((F r.1.1,r.1.2),r.2) ((F u.1.1,u.1.2),u.2):=by rcases h with ⟨g,y|rfl⟩;exact⟨g,.inl y⟩;exact⟨g,.inr rfl⟩
end
section
variable {N:PgM} {b c k v:Nat} {D:DiskM} {M M':PgM}
def Gd.blks(g:Gd N b M):M.sup.2.getD 0 0=(b:Int):=by rw[g.sup];exact g.blk.1
def Gd.blkE(g:Gd N b M):(extM b c M).sup.2.getD 0 0=(b:Int)+c:=by
 have h:=g.blks;have u:=g.blk.2;show (M.sup.2.set 0 ((b:Int)+c)).getD 0 0=_;cases e:M.sup.2 with
 | nil=>rw[e] at h;exact absurd (show (0:Int)=b from h) oJ
 | cons x l=>rfl
def Gd.used(g:Gd N b M)(n:Int):usedV (extM b c M) n=usedV M n:=by rw[Bool.eq_iff_iff,qay,qay,g.blkE,g.blks];show 2<=n/\n<(b:Int)+c/\n∉M.lists/\n∉M.free++exM b c/\n∉M.deferred/\lookv n M.fresh=none↔_;rw[zD,qb0,not_or];constructor;rintro⟨h,A,u,y,z⟩;exact⟨h,oJ,u,y.1,z⟩;rintro⟨h,A,u,y,z⟩;exact⟨h,oJ,u,⟨y,oJ⟩,z⟩
def Gd.rd(g:Gd N b M)(n:Int):pagerReadM D (extM b c M) n=pagerReadM D M n:=qfb (extM b c M) g.over g.over rfl (g.used n)
def Gd.use(g:Gd N b M)(n:Int):InUse (extM b c M) n↔InUse M n:=qd0 (extM b c M) rfl (g.used n)
def Gd.load(g:Gd N b M)(p:Int):loadN D (extM b c M) k v p=loadN D M k v p:=by unfold loadN;rw[g.rd]
def qp5(g:Gd N b M)(kd:Int)(l:List Int):Sm N b c (makeV M kd l) (makeV (extM b c M) kd l):=by
 have y:¬M.over=true:=(by rw[g.over];decide);have A:¬(extM b c M).over=true:=y;unfold makeV;rw[if_neg y,if_neg A];refine Sm.ite (fun _=>⟨g,.inr rfl⟩) fun _=>?_;have e:(extM b c M).free=M.free++exM b c:=rfl;rw[e];cases z:M.free with
 | nil=>exact⟨g,.inl rfl⟩
 | cons n r=>exact⟨⟨g.over,g.sup,g.lists,g.named,g.turn,g.blk,fun x u=>g.free x (by rw[z];exact zN _ u),fun x u=>(qp2 u).elim (fun h=>g.free x (by rw[z,h];simp)) (g.fresh x)⟩,.inr rfl⟩
def qxh(g:Gd N b M)(n kd:Int)(l:List Int):Sq N b c (putV M n kd l) (putV (extM b c M) n kd l):=by
 have u:¬M.over=true:=(by rw[g.over];decide);have y:¬(extM b c M).over=true:=u;have e:(extM b c M).fresh=M.fresh:=rfl;unfold putV;rw[if_neg u,if_neg y,e];cases z:look n M.fresh with
 | none=>exact⟨g,.inr rfl⟩
 | some q=>
  refine Sq.ite (fun _=>⟨g,.inr rfl⟩) fun _=>⟨⟨g.over,g.sup,g.lists,g.named,g.turn,g.blk,g.free,fun x A=>(qp2 A).elim (fun h=>g.fresh x ?_) (g.fresh x)⟩,.inr rfl⟩;rw[h];exact fresh_look.2 ⟨q.2,by unfold lookv;rw[z];rfl⟩
def qlp(g:Gd N b M)(n:Int):Sq N b c (dropV M n) (dropV (extM b c M) n):=by
 have y:¬M.over=true:=(by rw[g.over];decide);have A:¬(extM b c M).over=true:=y;have e:(extM b c M).fresh=M.fresh:=rfl;unfold dropV;rw[if_neg y,if_neg A,e];cases C:look n M.fresh with
 | none=>
  dsimp only;rw[g.used n];exact Sq.ite (fun _=>⟨⟨g.over,g.sup,g.lists,g.named,g.turn,g.blk,g.free,g.fresh⟩,.inr rfl⟩) fun _=>⟨g,.inr rfl⟩
 | some q=>
  have z:=g.fresh n (fresh_look.2 ⟨q.2,by unfold lookv;rw[C];rfl⟩);have E:ins n (extM b c M).free=ins n M.free++exM b c:=qr0 z _;dsimp only;rw[E];exact⟨⟨g.over,g.sup,g.lists,g.named,g.turn,g.blk,fun x u=>(qdV.1 u).elim (fun h=>by rw[h];exact z) (g.free x),fun x u=>g.fresh x (qvO u)⟩,.inr rfl⟩
def qbi(g:Gd N b M)(p:Int)(n:NodeM):Sm N b c (storeN k v M p n) (storeN k v (extM b c M) p n):=by unfold storeN;generalize writeNV n k v=x;refine Sm.ite (fun _=>⟨g,.inr rfl⟩) fun _=>?_;by_cases hp:p=0;rw[if_neg (fun h=>h.1 hp),if_neg (fun h=>h.2 hp),if_neg (fun h=>h.1 hp),if_neg (fun h=>h.2 hp)];exact qp5 g _ _;rcases qxh (c:=c) g p x.1 x.2.1 with ⟨z,u|e⟩;rw[if_pos ⟨hp,by rw[u];decide⟩];exact⟨z,.inl u⟩;rw[e];refine Sm.ite (fun _=>⟨z,.inr rfl⟩) fun _=>?_;rcases qp5 (c:=c) g x.1 x.2.1 with ⟨y,u|C⟩;rw[if_neg fun h=>absurd (u.symm.trans h.1) oM];exact⟨y,.inl u⟩;rw[C];refine Sm.ite (fun _=>?_) fun _=>⟨y,.inr rfl⟩;rcases qlp (c:=c) y p with ⟨A,u|E⟩;exact⟨A,.inl u⟩;dsimp only;rw[E];exact⟨A,.inr rfl⟩
def qjI(g:Gd N b M)(p:Int)(n:NodeM)(h:Bool):Sm N b c (splitN k v M p n h) (splitN k v (extM b c M) p n h):=by unfold splitN;refine Sm.ite (fun _=>?_) fun _=>(qbi g p n).map fun q=>(⟨q,h,[],0⟩:Grown);refine (qbi g _ _).err fun e u=>?_;rw[e];exact (qbi u p _).map fun q=>(⟨q,h,_,_⟩:Grown)
def qqq{key val:Key}:∀(f:Nat) (M:PgM) (p:Int),Gd N b M->Sm N b c (putN D k v key val f M p) (putN D k v key val f (extM b c M) p)
 | 0,M,p,g=>⟨g,.inr rfl⟩
 | f+1,M,p,g=>by unfold putN;rw[g.load];refine Sm.ite (fun _=>⟨g,.inr rfl⟩) fun _=>Sm.ite (fun _=>Sm.ite (fun _=>qjI g _ _ _) fun _=>qjI g _ _ _) fun _=>(qqq f M _ g).err fun e h=>?_;rw[e];exact Sm.ite (fun _=>⟨h,.inr rfl⟩) fun _=>qjI h _ _ _
def qpY(g:Gd N b M)(n:NodeM)(i:Nat)(l r:NodeM):Sm N b c (joinM k v M n i l r) (joinM k v (extM b c M) n i l r):=by unfold joinM;refine (qbi g _ _).err fun e y=>?_;rw[e];rcases qlp (c:=c) y (n.kids.getD (i+1) 0) with ⟨h,u|z⟩;rw[if_pos (by rw[u];decide)];exact⟨h,.inl u⟩;dsimp only;rw[z];exact Sm.ite (fun _=>⟨h,.inr rfl⟩) fun _=>⟨h,.inr rfl⟩
def qpt(g:Gd N b M)(n:NodeM)(i:Nat)(r:NodeM×NodeM×Key):Sm N b c (bothM k v M n i r) (bothM k v (extM b c M) n i r):=by unfold bothM;refine (qbi g _ _).err fun e h=>?_;rw[e];exact (qbi h _ _).map fun q=>({ n with keys:=n.keys.set i r.2.2,kids:=(n.kids.set i _).set (i+1) q }:NodeM)
def qpI(g:Gd N b M)(n:NodeM)(h i:Nat)(x:NodeM):Sm N b c (evenM D k v M n h i x) (evenM D k v (extM b c M) n h i x):=by unfold evenM;rw[g.load];exact Sm.ite (fun _=>⟨g,.inr rfl⟩) fun _=>Sm.ite (fun _=>Sm.ite (fun _=>qpY g _ _ _ _) fun _=>qpt g _ _ _) fun _=>Sm.ite (fun _=>qpY g _ _ _ _) fun _=>qpt g _ _ _
def qln{key:Key}:∀(f:Nat) (M:PgM) (p:Int),Gd N b M->Sm N b c (cutN D k v key f M p) (cutN D k v key f (extM b c M) p)
 | 0,M,p,g=>⟨g,.inr rfl⟩
 | f+1,M,p,g=>by unfold cutN;rw[g.load];refine Sm.ite (fun _=>⟨g,.inr rfl⟩) fun _=>Sm.ite (fun _=>Sm.ite (fun _=>⟨g,.inr rfl⟩) fun _=>⟨g,.inr rfl⟩) fun _=>(qln f M _ g).err fun e h=>?_;rw[e];exact Sm.ite (fun _=>(qbi h _ _).map fun q=>({ (loadN D M k v p).1 with kids:=(loadN D M k v p).1.kids.set (kidV (loadN D M k v p).1.keys key) q }:NodeM)) fun _=>Sm.ite (fun _=>qpI h _ _ _ _) fun _=>qpI h _ _ _ _
def qlO(g:Gd N b M)(t x y z:Int):Sq N b c (setRootM M t x y z) (setRootM (extM b c M) t x y z):=by have h:¬M.over=true:=(by rw[g.over];decide);have u:¬(extM b c M).over=true:=h;unfold setRootM;rw[if_neg h,if_neg u];exact Sq.ite (fun _=>⟨g,.inr rfl⟩) fun _=>⟨⟨g.over,g.sup,g.lists,g.named,g.turn,g.blk,g.free,g.fresh⟩,.inr rfl⟩
def qqM{r u:(Int×Int)×PgM}(h:Sm N b c r u)(t x y:Int):Sq N b c (rootTo t r x y) (rootTo t u x y):=by unfold rootTo;refine h.errq fun e g=>?_;rw[e];exact qlO g _ _ _ _
def qsQ(f:Nat)(t:Int)(g:Gd N b M):Sq N b c (insertN D k v t key val f M) (insertN D k v t key val f (extM b c M)):=by unfold insertN;have e:rootM (extM b c M) t=rootM M t:=rfl;rw[e];refine Sq.ite (fun _=>qqM (qbi g _ _) _ _ _) fun _=>?_;unfold growN;refine (qqq f M _ g).errq fun e h=>?_;rw[e];exact Sq.ite (fun _=>qqM (qbi h _ _) _ _ _) fun _=>qlO h _ _ _ _
def qmc(g:Gd N b M)(x t p y z:Int):Sq N b c (if (dropV M x).1≠0 then ((dropV M x).1,(dropV M x).2) else setRootM (dropV M x).2 t p y z) (if (dropV (extM b c M) x).1≠0 then ((dropV (extM b c M) x).1,(dropV (extM b c M) x).2) else setRootM (dropV (extM b c M) x).2 t p y z):=by refine (qlp g x).errq fun e h=>?_;rw[e];exact qlO h _ _ _ _
def qtg(f:Nat)(t:Int)(g:Gd N b M):Sq N b c (removeN D k v t key f M) (removeN D k v t key f (extM b c M)):=by unfold removeN;have e:rootM (extM b c M) t=rootM M t:=rfl;rw[e];unfold shrinkN;refine (qln f M _ g).errq fun e h=>?_;rw[e];exact Sq.ite (fun _=>qmc h _ _ _ _ _) fun _=>Sq.ite (fun _=>qmc h _ _ _ _ _) fun _=>qqM (qbi h _ _) _ _ _
def qqC{key:Key}:∀(f:Nat) (M:PgM) (p:Int),Gd N b M->cutSafe D k v key f (extM b c M) p->cutSafe D k v key f M p
 | 0,M,p,g,h=>h
 | f+1,M,p,g,h=>fun n z A=>by obtain⟨C,E⟩:=h n (by rw[g.load];exact z) A;refine⟨qqC f M _ g C,fun X M1 G u ny I=>?_⟩;obtain⟨y,e⟩:=qln (c:=c) (D:=D) (k:=k) (v:=v) (key:=key) f M (n.kids.getD (kidV n.keys key) 0) g;rw[G] at e y;rcases e with e|e;cases e;exact E X _ e u ny (by rw[y.load];exact I)
def Wf.gd(u:M.Wf)(y:M.over=false)(z:M.sup.2.getD 0 0=(b:Int))(A:2<=b):Gd M b M:=
 ⟨y,rfl,rfl,rfl,rfl,⟨z,A⟩,fun x h=>by have:=(u.range x (by simp[h])).2;omega,fun x h=>by have:=(u.range x (by simp only[zD];exact .inr (.inr (.inr h)))).2;omega⟩
def Wf.ext(z:M.Wf)(g:Gd N b M)(G:b+c<=4096):(extM b c M).Wf:=by
 have I:=g.blks;have J:=g.blk.2;have C:∀x∈M.free++(M.deferred++(M.lists++M.fresh.map (·.1))),2<=x/\x<(b:Int):=fun x u=>by have:=z.range x u;omega
 have E:=yL.1 z.nodup;refine⟨by rw[g.blkE];omega,fun x u=>?_,z.roots,pairwise_append.2 ⟨z.namedS,qmg,fun x u y A=>?_⟩,fun x u=>?_,pairwise_append.2 ⟨z.freeS,qmg,fun x u y A=>?_⟩,z.defS,?_,fun x u=>?_,z.body⟩;rcases mem_or_eq_of_mem_set u with h|h;exact z.u32 x h;rw[h];exact⟨oJ,oJ⟩
 have:=(z.named x u).2
 have:=(qb0.1 A).1
 omega;rw[g.blkE];rcases zD.1 u with h|h
 have:=z.named x h
 omega
 have:=qb0.1 h
 omega
 have:=g.free x u
 have:=(qb0.1 A).1
 omega;show ((M.free++exM b c)++(M.deferred++(M.lists++M.fresh.map (·.1)))).Nodup;rw[zV];refine yL.2 ⟨E.1,yL.2 ⟨qbP qmg,E.2.1,fun x u y A e=>?_⟩,fun x u y A e=>?_⟩
 have:=(C y (zI _ A)).2
 have:=(qb0.1 u).1
 omega;rcases zD.1 A with h|h
 have:=g.free x u
 have:=(qb0.1 h).1
 omega;exact E.2.2 x u y h e;rw[g.blkE];rcases zD.1 u with h|h;rcases zD.1 h with h|h
 have:=C x (zH _ h)
 omega
 have:=qb0.1 h
 omega
 have:=C x (zI _ h)
 omega
def Wf.unext(h:(extM b c M').Wf)(g:Gd M b M')(y:M.Wf):M'.Wf:=by have A:=g.sup;have E:=g.named;have u:((M'.free++exM b c)++(M'.deferred++(M'.lists++M'.fresh.map (·.1)))).Nodup:=h.nodup;refine⟨by rw[A];exact y.n4,by rw[A];exact y.u32,h.roots,by rw[E];exact y.namedS,by rw[E,A];exact y.named,(pairwise_append.1 (show (M'.free++exM b c).Pairwise (· < ·) from h.freeS)).1,h.defS,u.sublist ((sublist_append_left _ _).append (.refl _)),fun x G=>?_,h.body⟩;rw[g.blks];have I:x∈(M'.free++exM b c)++(M'.deferred++(M'.lists++M'.fresh.map (·.1))):=(zD.1 G).elim (fun h=>zH _ (zH _ h)) fun h=>zI _ h;have z:=h.range x I;rw[g.blkE] at z;rcases zD.1 G with C|C;exact⟨z.1,g.free x C⟩;refine⟨z.1,Int.not_le.1 fun J=>(yL.1 u).2.2 x (zI _ (qb0.2 ⟨J,z.2⟩)) x C rfl⟩
def TreeIs.frameD{D':DiskM}{t:Int}{L:Prs}{P:List Int}(h:TreeIs D M k v t L P)(y:∀x∈P,pagerReadM D' M' x=pagerReadM D M x)(e:rootM M' t=rootM M t):TreeIs D' M' k v t L P:=by rcases h with ⟨z,A,C⟩|⟨h,n,p,E,u,G⟩;exact .inl ⟨e.trans z,A,C⟩;exact .inr ⟨h,n,p,E,e.trans u,G.frameD y⟩
def Step.unext{P P':List Int}(h:Step D (extM b c M) (extM b c M') P P')(g:Gd M b M)(u:Gd M b M')(C:M.Wf):Step D M M' P P':=by
 refine⟨Wf.unext h.wf u C,u.over,h.roots,u.sup,u.lists,u.named,fun E=>?_,u.turn,fun x y G=>?_,fun x y=>?_,fun x y=>(u.use x).1 (h.has x y),fun x y=>(h.new x y).imp id fun z A=>z ((g.use x).2 A),h.nodup,fun x y=>?_⟩;have sw:∀N:PgM,((N.free++exM b c)++N.fresh.map (·.1)).Perm ((N.free++N.fresh.map (·.1))++exM b c):=fun N=>by rw[zV,zV];exact perm_append_comm.append_left _
 have z:((M'.free++exM b c)++M'.fresh.map (·.1)).Perm (M'.named++exM b c):=h.Named ((sw M).trans (List.Perm.append_right _ E));exact (perm_append_right_iff _).1 ((sw M').symm.trans z);obtain⟨z,A,I⟩:=h.rest x ((g.use x).2 y) G;rw[g.rd,u.rd] at z;exact⟨z,(u.use x).1 A,I⟩;exact (h.use x ((u.use x).2 y)).imp id fun z=>⟨(g.use x).1 z.1,z.2⟩
 have:=h.old x (by rw[u.used];exact y)
 rw[g.used] at this;exact this
def RStep.unext{t:Int}{P P':List Int}(h:RStep D (extM b c M) (extM b c M') t P P')(g:Gd M b M)(u:Gd M b M')(y:M.Wf):RStep D M M' t P P':=
 ⟨Step.unext (M':={ M' with roots:=M.roots }) h.step g ⟨u.over,u.sup,u.lists,u.named,u.turn,u.blk,u.free,u.fresh⟩ y,Wf.unext h.wf u y,h.len,h.others⟩
def Gd.back(g:Gd M b M')(h:M.over=false):({ M' with free:=M.free,deferred:=M.deferred,fresh:=M.fresh,roots:=M.roots }:PgM)=M:=by obtain⟨u,y,z,A,C,_⟩:=g;cases M;cases M';cases u;cases y;cases z;cases A;cases C;cases h;rfl
def TreeIs.low(h:TreeIs D M k v t L P):(rootM M t).2.2.toNat<=L.length/\0<=(rootM M t).2.2:=by
 rcases h with ⟨u,A,C⟩|⟨h,n,p,E,y,z⟩;rw[u];exact⟨yW _,Int.le_refl _⟩
 have:=z.counts.1
 rw[y];exact⟨by dsimp only at this⊢;omega,by dsimp only;omega⟩
def qsP(I:CapsOk k v)(J:0<=t/\t<8)(K:key.length=k/\IsB key)(O:val.length=v/\IsB val)(y:TreeIs D M k v t L P)(u:M.Wf)(Q:M.over=false)(R:M.roots.length=24)(U:P.Nodup)(hL:L.length<=1000)(hb:M.sup.2.getD 0 0=(b:Int))(h2:2<=b/\b<=1000): ((insertN D k v t key val (rootM M t).2.2.toNat M).1=6/\Gd M b (insertN D k v t key val (rootM M t).2.2.toNat M).2/\M.free.length<2*(rootM M t).2.2.toNat+1)\/∃M' P',insertN D k v t key val (rootM M t).2.2.toNat M=(0,M')/\TreeIs D M' k v t (insP key val L) P'/\RStep D M M' t P P'/\M.free.length<=M'.free.length+(2*(rootM M t).2.2.toNat+1):=by
 have V:=y.low.1;have g:=Wf.gd u Q hb h2.1;rcases qsQ (c:=2*(rootM M t).2.2.toNat+1) (D:=D) (k:=k) (v:=v) (key:=key) (val:=val) (rootM M t).2.2.toNat t g with ⟨A,C|e⟩;refine .inl ⟨C,A,Nat.not_le.1 fun hf=>?_⟩;obtain⟨M',P',e,_⟩:=qjf I J K O y u Q R U oJ hf;rw[e] at C;cases C;obtain⟨M1,P',e1,E,G,h⟩:=qjf (M:=extM b (2*(rootM M t).2.2.toNat+1) M) I J K O (y.frameD (fun x _=>g.rd x) rfl) (Wf.ext u g oJ) g.over R U oJ (by show 2*(rootM M t).2.2.toNat+1<=(M.free++exM b _).length;rw[zF,qg6];exact Nat.le_add_left _ _)
 obtain⟨z,rfl⟩:=Prod.mk.inj (e.symm.trans e1);have h:(M.free++exM b (2*(rootM M t).2.2.toNat+1)).length<=((insertN D k v t key val (rootM M t).2.2.toNat M).2.free++exM b (2*(rootM M t).2.2.toNat+1)).length+(2*(rootM M t).2.2.toNat+1):=h;simp only[zF,qg6] at h;exact .inr ⟨_,P',Prod.ext z rfl,E.frameD (fun x _=>(A.rd x).symm) rfl,G.unext g A u,Nat.le_of_add_le_add_right (by rw[Nat.add_right_comm];exact h)⟩
def qtf(G:CapsOk k v)(U:0<=t/\t<8)(I:TreeIs D M k v t L P)(h:key∈keysP L)(E:M.Wf)(V:M.over=false)(hr:M.roots.length=24)(J:P.Nodup)(hL:L.length<=1000)(hb:M.sup.2.getD 0 0=(b:Int))(h2:2<=b/\b<=1000): cutSafe D k v key (rootM M t).2.2.toNat M (rootM M t).1/\(((removeN D k v t key (rootM M t).2.2.toNat M).1=6/\Gd M b (removeN D k v t key (rootM M t).2.2.toNat M).2/\M.free.length<2*(rootM M t).2.2.toNat+1)\/∃M' P',removeN D k v t key (rootM M t).2.2.toNat M=(0,M')/\TreeIs D M' k v t (cutP key L) P'/\RStep D M M' t P P'/\M.free.length<=M'.free.length+(2*(rootM M t).2.2.toNat+1)):=by
 have ab:=I.low.1;have g:=Wf.gd E V hb h2.1;have y:TreeIs D (extM b (2*(rootM M t).2.2.toNat+1) M) k v t L P:=I.frameD (fun x _=>g.rd x) rfl;have A:=Wf.ext (c:=2*(rootM M t).2.2.toNat+1) E g oJ;have C:2*(rootM M t).2.2.toNat+1<=(extM b (2*(rootM M t).2.2.toNat+1) M).free.length:=by show 2*(rootM M t).2.2.toNat+1<=(M.free++exM b _).length;rw[zF,qg6];exact Nat.le_add_left _ _
 refine⟨qqC _ _ _ g (y.safe G h A g.over J C),?_⟩;rcases qtg (c:=2*(rootM M t).2.2.toNat+1) (D:=D) (k:=k) (v:=v) (key:=key) (rootM M t).2.2.toNat t g with ⟨K,O|e⟩;refine .inl ⟨O,K,Nat.not_le.1 fun hf=>?_⟩;obtain⟨M',P',e,_⟩:=qow G U I h E V hr J oJ hf;rw[e] at O;cases O;obtain⟨M1,P',e1,Q,R,u⟩:=qow (M:=extM b (2*(rootM M t).2.2.toNat+1) M) G U y h A g.over hr J oJ C;obtain⟨z,rfl⟩:=Prod.mk.inj (e.symm.trans e1);have u:(M.free++exM b (2*(rootM M t).2.2.toNat+1)).length<=((removeN D k v t key (rootM M t).2.2.toNat M).2.free++exM b (2*(rootM M t).2.2.toNat+1)).length+(2*(rootM M t).2.2.toNat+1):=u;simp only[zF,qg6] at u;exact .inr ⟨_,P',Prod.ext z rfl,Q.frameD (fun x _=>(K.rd x).symm) rfl,R.unext g K E,Nat.le_of_add_le_add_right (by rw[Nat.add_right_comm];exact u)⟩
def qvE{f:Nat}(h:(insertN D k v t key val f M).1≠-1):(rootM M t).1≠0->(putN D k v key val f M (rootM M t).1).1.2≠-1:=fun y u=>h (by unfold insertN;rw[if_neg y];unfold growN;rw[if_pos (by rw[u];decide),u])
end
end
end
end Go.Proofs.YtgjidjnaigkdfaaGreatDoor
