/- Conditions: those that stand in each line. -/
import Derived.Test.YtpcmehldpoljfaaGreatDoorCSAR6
import Derived.Test.YtpcmehldpoljfaaGreatDoorCSAR3
import Derived.Test.YtpcmehldpoljfaaGreatDoorCSAR1
import Derived.Test.YtpcmehldpoljfaaGreatDoorCSAR4
set_option linter.unusedVariables false
set_option linter.unusedSimpArgs false
set_option linter.defProp false
namespace Go.Pt
section
open Go
def zp{P:Ig}{w:Ic}{v:Ie}{f:FuncId}{ra args:List Ie}{ts:List gU}{K:i6 ts->WP}(h:v=.func (.func f) ra.toArray #[])(u:iA P f=false)(k:call P f (ra++args) ts w K):dZ P v args ts w K:=by subst h;refine .inl ⟨f,ra++args,?_,k⟩;simp[Deferred.ofValue,invoke,yq u]
def Cn{S ι:Type}{B:(S->WP)->S->WP}{s:S}{w:Ic}(I:ι->S->WP)(m:ι->Nat)(i0:ι)(G:I i0 s w)(step:∀i s w,I i s w->∀X:S->WP,(∀h u w',I h u w'->m h<m i->X u w')->B X s w):loop S B s w:=by
 intro J R;have key:∀k i s w,m i=k->I i s w->J s w:=by
  intro k;induction k using Nat.strongRecOn with
  | _ k ih=>
   intro i s w U V;exact R s w (step i s w V J λh u w' C E=>ih (m h) (U▸E) h u w' rfl C)
 exact key _ i0 s w rfl G
end
end Go.Pt
namespace Go.Proofs.YtpcmehldpoljfaaGreatDoor
section
open Go Go.Pt List
open Go.IntKind (wrap)
attribute [local irreducible] ld dL gZ mP i3 fc st new idx i4 jg fB jk iO lS gB nn call dZ inv run eW iC join loop held ext jU eH mv mp mA IntKind.wrap
abbrev qr:=kz×kA
def AT (x:kz) (i:Int):Array Ie:=#[.bool x.1,x.2.1.v,x.2.2.1.v,x.2.2.2.v,.i i]
def iV (z:qr):List Ie:=[.bool z.1.1,z.1.2.1.v,z.1.2.2.1.v,z.1.2.2.2.v,.i z.2.2]
def vW:∀z,(iV z).length=5:=λ_=>rfl
def qwX(z:qr):∀u∈iV z,u.oneCell'=true:=λu h=>by unfold iV at h;simp only[zG,xW,or_false] at h;rcases h with rfl|rfl|rfl|rfl|rfl<;>rfl
section
variable {w w':Ic} {s:Sl} {zs:List qr} {z:qr} {SB:Ik}
def Ch(h:eU iV 5 w s (zs++[z]) SB):∃b u T,SB=[b]/\s.a=pW b/\w.heap[b]?=some (.c u T)/\s.len=zs.length+1/\s.len<=s.cap/\s.cap*5<=u.size/\u.toList.take (zs.length*5+5)=zs.flatMap iV++iV z:=by rcases h with ⟨_,h,_⟩|⟨b,o,u,T,G,rfl,I,J,E,R,U,C⟩;exact absurd h oL;rw[zF,xL] at E C;rw[xE,yP,yG,flatMap_nil,xG,xT] at C;exact⟨b,u,T,G,I,J,E,R,oJ,C⟩
def qzl{b j:Nat}(h:eU iV 5 w s (zs++[z]) [b])(I:j<5):w.cell? ⟨b,zs.length*5+j,none⟩=(iV z)[j]?:=by obtain⟨b',J,T,C,R,E,U,V,h6,G⟩:=Ch h;cases C;rw[jp E,<- xK];have u:=H9 (·[zs.length*5+j]?) G;rw[xA,iP,yX (by rw[qx vW];omega),qx vW,vC] at u;exact u
def quP{K:Addr->Prop}(h:eU iV 5 w s (zs++[z]) SB)(G:zs.length<=1000000)(u:∀b,SB=[b]->K ⟨b,zs.length*5,none⟩):idx s (wrap .i64 ((s.len:Int)-1)) 5 K:=by obtain⟨b,I,T,C,E,J,R,U,V,h7⟩:=Ch h;have e:wrap .i64 ((s.len:Int)-1)=(zs.length:Int):=(by rw[IntWalk.i64_in _ oJ];omega);rw[e];refine qs E ⟨oJ,oJ⟩ ?_;rw[zJ,xR];exact u b C
def qBb{b:Nat}{j:Int}{K:WP}(h:eU iV 5 w s (zs++[z]) [b])(kk:∀w',eU iV 5 w' s (zs++[(z.1,z.2.1,j)]) [b]->Fr [b] w w'->K w'):st ⟨b,zs.length*5+4,none⟩ [.i j] w K:=by
 obtain⟨b',cs,T,hB,h2,h3,h4,h5,h6,h7⟩:=Ch h;cases hB;have hm:(zs.flatMap iV++iV z).length=zs.length*5+5:=(by rw[zF,qx vW];rfl);refine qY h3 _ rfl (by rfl) oO λw' hb f=>kk w' (.inr ⟨b,0,_,T,rfl,rfl,h2,hb,by rw[zF,xL];exact h4,h5,by rw[mY];omega,?_⟩) f
 have:=qq0 (cs:=cs) (M:=zs.flatMap iV++iV z) (i:=zs.length*5+4) (v:=.i j) (by rw[hm];omega) (by rw[hm];exact h7);rw[hm,set_append_right _ _ (by rw[qx vW];omega),qx vW,vC] at this;rw[xE,zF,xL,xT,yP,yG,flatMap_nil,xG];exact this
def qAx{K:Sl->Prop}(h:eU iV 5 w s (zs++[z]) SB)(V:zs.length<=1000000)(E:∀u,eU iV 5 w u zs SB->K u):fB s none (some (wrap .i64 ((s.len:Int)-1))) none 5 K:=by obtain⟨b,G,T,I,J,R,h4,h5,h6,U⟩:=Ch h;have e:wrap .i64 ((s.len:Int)-1)=(zs.length:Int):=(by rw[IntWalk.i64_in _ oJ];omega);rw[e];refine zv ⟨oJ,oJ⟩ ?_;rw[zJ];refine E _ (.inr ⟨b,0,G,T,I,rfl,J,R,rfl,by dsimp only;omega,by dsimp only;omega,?_⟩);have C:=H9 (List.take (zs.length*5)) U;rw[take_take,xQ oJ] at C;rw[xE,C,HP (by rw[qx vW];exact zM _)];exact zS (by rw[qx vW];exact zM _)
end
def mB (cb:Nat) (down:Bool):Ie:=.func (.func (if down then 79 else 76)) #[dG cb] #[]
def mN (cb:Nat) (down:Bool):Ie:=.func (.func (if down then 80 else 77)) #[dG cb] #[]
def nU (cb:Nat) (down:Bool):Ie:=.func (.func (if down then 81 else 78)) #[dG cb] #[]
def jE (down:Bool) (frm to:Key) (n:dM):Int:=if down then ip n to else jN n frm
def jJ (down:Bool) (i:Int):Int:=if down then i-1 else i+1
def nc (down:Bool) (frm to key:Key):Bool:=if down then decide (cmpL key frm<0) else decide (cmpL key to>0)
structure gb (dbk pb:Nat) (FD:Ik) (D:dJ) (F:Ik) (M:dV) (k v:Nat) (frm to:Key) (down:Bool) (w0:Ic) (cb:Nat) (Y:Ik) (w:Ic) (st:Sl) (SB:Ik) (zs:List qr):Prop where
 cell:∃ sf sto,mO w cb ⟨pb,k,v,sf,sto,st,mB cb down,mN cb down,nU cb down⟩/\en (cb::(SB++Y)) w sf frm/\en (cb::(SB++Y)) w sto to
 tw:TW dbk pb FD D 900000 w (cb::(SB++Y)) F M
 ue:eU iV 5 w st zs SB
 nodes:∀ z∈zs,eF (cb::(SB++Y)) w z.1 z.2.1/\fH z.2.1 k v
 DB:cb∉SB
 AH:cb∉Y
 wT:∀ b∈SB,b∉Y
 new:∀ b∈cb::SB,w0.heap.size<=b
 wL:eI frm
 Hd:eI to
 Ax:zs.length<=100000
section
variable {dbk pb:Nat} {FD F:Ik} {D:dJ} {M:dV} {k v:Nat} {frm to:Key} {down:Bool} {w0 w w':Ic} {cb:Nat} {Y Y' SB SB':Ik} {st st':Sl} {zs zs':List qr}
def gb.x6(h:gb dbk pb FD D F M k v frm to down w0 cb Y w st SB zs)(f:Fr (cb::(SB++Y)) w w')(hc:∃V G T,w.heap[cb]?=some (.c (pz.cells ⟨pb,k,v,V,G,st,mB cb down,mN cb down,nU cb down⟩) T)/\w'.heap[cb]?=some (.c (pz.cells ⟨pb,k,v,V,G,st',mB cb down,mN cb down,nU cb down⟩) T))(E:eU iV 5 w' st' zs' SB')(hn:∀z∈zs',eF (cb::(SB'++Y')) w' z.1 z.2.1/\fH z.2.1 k v)(hS:∀b∈SB',b∈SB\/w.heap.size<=b)(hY:∀b∈Y',b∈Y\/w.heap.size<=b)(ac:∀b∈Y',b<w'.heap.size)(ad:∀b∈SB',b∉Y')(hl:zs'.length<=100000):gb dbk pb FD D F M k v frm to down w0 cb Y' w' st' SB' zs':=by
 obtain⟨V,G,⟨T,u⟩,ae,af⟩:=h.cell;obtain⟨U,I,T',e,aa⟩:=hc;rw[e] at u;have e1:U=V/\I=G:=by
  injection u with u;injection u with u;unfold pz.cells at u;simp only[Array.mk.injEq,List.cons.injEq,Value.slice.injEq,and_true,true_and] at u;obtain⟨⟨a1,a2,a3⟩,⟨b1,b2,b3⟩⟩:=u;exact⟨by cases V;cases U;simp_all,by cases G;cases I;simp_all⟩
 obtain⟨rfl,rfl⟩:=e1;have an:=eX e;have J:∀b∈cb::(SB'++Y'),b∈cb::(SB++Y)\/w.heap.size<=b:=λb E=>by rcases zG.1 E with rfl|E;exact .inl oL;rcases zD.1 E with E|E;exact (hS b E).imp (λh=>by simp[h]) id;exact (hY b E).imp (λh=>by simp[h]) id
 have ag:∀b∈cb::(SB'++Y'),b<w'.heap.size:=λb C=>by rcases zG.1 C with rfl|C;exact eX aa;rcases zD.1 C with C|C;exact E.lt b C;exact ac b C
 have ah:w0.heap.size<=cb:=h.new cb oL;refine⟨⟨U,I,⟨T',aa⟩,ae.q8 f J,af.q8 f J⟩,h.tw.cM f ag J,E,hn,λhm=>?_,λhm=>?_,ad,λb E=>?_,h.wL,h.Hd,hl⟩;rcases hS cb hm with R|R;exact h.DB R;omega;rcases hY cb hm with R|R;exact h.AH R;omega;rcases zG.1 E with rfl|E;exact ah;rcases hS b E with R|R;exact h.new b (by simp[R]);omega
def gb.at(h:gb dbk pb FD D F M k v frm to down w0 cb Y w st SB zs):∃C u T,w.heap[cb]?=some (.c (pz.cells ⟨pb,k,v,C,u,st,mB cb down,mN cb down,nU cb down⟩) T):=by obtain⟨C,u,⟨T,E⟩,_⟩:=h.cell;exact⟨C,u,T,E⟩
def gb.lt(h:gb dbk pb FD D F M k v frm to down w0 cb Y w st SB zs):∀b∈cb::(SB++Y),b<w.heap.size:=h.tw.qw
def gb.q8(h:gb dbk pb FD D F M k v frm to down w0 cb Y w st SB zs)(f:Fr Y w w')(C:∀b∈Y',b∈Y\/w.heap.size<=b)(E:∀b∈Y',b<w'.heap.size):gb dbk pb FD D F M k v frm to down w0 cb Y' w' st SB zs:=by
 obtain⟨sf,G,T,I⟩:=h.at;have J:=eX I;have R:Fr (cb::(SB++Y)) w w':=f.mono λb u _=>by simp[u]
 refine h.x6 R ⟨sf,G,T,I,by rw[f.block cb J h.AH];exact I⟩ (h.ue.q8 f h.wT) (λz U=>⟨(h.nodes z U).1.q8 R λb u=>?_,(h.nodes z U).2⟩) (λb u=>.inl u) C E (λb u hm=>?_) h.Ax;rcases zG.1 u with rfl|u;exact .inl oL;rcases zD.1 u with u|u;exact .inl (by simp[u]);exact (C b u).imp (λh=>by simp[h]) id;rcases C b hm with V|V;exact h.wT b u V;have:=h.lt b (by simp[u]);omega
def gb.q7(h:gb dbk pb FD D F M k v frm to down w0 cb Y w st SB zs)(f:Fr [] w w'):gb dbk pb FD D F M k v frm to down w0 cb Y w' st SB zs:=
 h.q8 (f.mono λ_ h=>nomatch h) (λb u=>.inl u) λb u=>yC (h.lt b (by simp[u])) f.size
def gb.drew(h:gb dbk pb FD D F M k v frm to down w0 cb Y w st SB zs):gb dbk pb FD D F M k v frm to down w0 cb Y w.drew st SB zs:=h.q7 (Fr.refl [] w).drew
def gb.pH{K:Sl->Prop}(h:gb dbk pb FD D F M k v frm to down w0 cb Y w st SB zs)(u:K st):ld .slice (dg cb 5) w K:=by
 obtain⟨G,C,T,E⟩:=h.at;exact pB st (jp E) u
def gb.tz{K:WP}(h:gb dbk pb FD D F M k v frm to down w0 cb Y w st SB zs)(w1:Ic)(f:Fr SB w w1)(u:eU iV 5 w1 st' zs' SB')(hn:∀z∈zs',z∈zs\/eF (cb::(SB'++Y)) w1 z.1 z.2.1/\fH z.2.1 k v)(R:∀b∈SB',b∈SB\/w.heap.size<=b)(hl:zs'.length<=100000)(kk:∀w',gb dbk pb FD D F M k v frm to down w0 cb Y w' st' SB' zs'->Fr (cb::SB) w w'->K w'):Pt.st (dg cb 5) [st'.v] w1 K:=by
 obtain⟨V,E,T,hc⟩:=h.at;have ab:=eX hc;have ac:w1.heap[cb]?=some (.c (pz.cells ⟨pb,k,v,V,E,st,mB cb down,mN cb down,nU cb down⟩) T):=(by rw[f.block cb ab h.DB];exact hc);have I:cb∉SB':=λG=>by rcases R cb G with C|C;exact h.DB C;omega
 refine qY ac (pz.cells ⟨pb,k,v,V,E,st',mB cb down,mN cb down,nU cb down⟩) rfl rfl (zO rfl) λw2 ad f2=>?_;have U:Fr (cb::SB) w w2:=(f.mono λb u _=>by simp[u]).j8 f2 λb u=>.inl (by rw[zE.1 u];simp);refine kk w2 (h.x6 (U.mono λb u _=>by rcases zG.1 u with rfl|u<;>simp[*]) ⟨V,E,T,hc,ad⟩ (u.q8 f2 λb u G=>I (by rw[zE.1 G] at u;exact u)) (λz hz=>?_) R (λb u=>.inl u) (λb u=>yC (h.lt b (by simp[u])) U.size) (λb u G=>?_) hl) U;have J:∀b∈cb::(SB'++Y),b∈cb::(SB++Y)\/w.heap.size<=b:=λb u=>by rcases zG.1 u with rfl|u;exact .inl oL;rcases zD.1 u with u|u;exact (R b u).imp (λh=>by simp[h]) id;exact .inl (by simp[u])
 rcases hn z hz with C|C;exact⟨(h.nodes z C).1.q8 (U.mono λb u _=>by rcases zG.1 u with rfl|u<;>simp[*]) J,(h.nodes z C).2⟩;exact⟨C.1.q8 (f2.mono λb u _=>by rw[zE.1 u];simp) λb u=>.inl u,C.2⟩;rcases R b u with C|C;exact h.wT b C G;have:=h.lt b (by simp[G]);omega
def gb.vq{z:qr}{b:Nat}{j:Int}{K:WP}(h:gb dbk pb FD D F M k v frm to down w0 cb Y w st [b] (zs++[z]))(U:∀w',gb dbk pb FD D F M k v frm to down w0 cb Y w' st [b] (zs++[(z.1,z.2.1,j)])->Fr [b] w w'->K w'):Pt.st ⟨b,zs.length*5+4,none⟩ [.i j] w K:=by
 refine qBb h.ue λw' V f=>U w' ?_ f;obtain⟨sf,G,T,I⟩:=h.at;have J:cb∉[b]:=h.DB;have R:Fr (cb::([b]++Y)) w w':=f.mono λx u _=>by rw[zE.1 u];simp
 have C:∀x∈cb::([b]++Y),x∈cb::([b]++Y)\/w.heap.size<=x:=λx u=>.inl u;refine h.x6 R ⟨sf,G,T,I,by rw[f.block cb (eX I) J];exact I⟩ V (λy E=>?_) (λx u=>.inl u) (λx u=>.inl u) (λx u=>yC (h.lt x (by simp[u])) f.size) h.wT (by have:=h.Ax;rw[zF] at this⊢;exact this);rcases zD.1 E with E|E;exact⟨(h.nodes y (zH _ E)).1.q8 R C,(h.nodes y (zH _ E)).2⟩;rw[zE.1 E];exact⟨eF.q8 (h.nodes z oL).1 R C,(h.nodes z oL).2⟩
end
end
end Go.Proofs.YtpcmehldpoljfaaGreatDoor
namespace Go.Pt
section
open Go
def qy0{o:Obj}{w:Ic}{H:WP}{R:Nat->WP}(h:Pt.new o w R)(u:∀w',Fr [] w w'->H w'):Pt.new o w λr w1=>held [H] w1 (R r w1):=⟨u _ ((Fr.refl [] w).alloc o),h⟩
end
end Go.Pt
namespace Go.Proofs.YtpcmehldpoljfaaGreatDoor
section
open Go Go.Pt List
open Classical
attribute [local irreducible] ld dL gZ mP i3 fc st new idx i4 jg fB jk iO lS gB nn call dZ inv run eW iC join loop held ext jU eH mv mp mA IntKind.wrap
abbrev FT:If:=176
def qAR:∃i,Tryz.prog.info? FT=some i/\i.zero=some (.agg cZ)/\i.size=5/\i.bytes=88:=sV oK
def qA6{w:Ic}{s:Sl}{zs:List qr}{SB:Ik}{x:kz}{n:dM}{i:Int}{H:WP}{K:Sl->WP}(h:eU iV 5 w s zs SB)(U:zs.length<=1000000)(G:∀w',Fr [] w w'->H w')(I:∀E B' w',eU iV 5 w' E (zs++[(x,n,i)]) B'->Fr SB w w'->(∀b∈B',b∈SB\/w.heap.size<=b)->K E w'): Pt.new (.cells (AT x i) FT) w λr w1=>held [H] w1 (Pt.run dh ((Builtin.append_ #[162,162] 162 #[s.v,.slice (pW r) 1 1]).run Tryz.prog w1) K):=by obtain⟨j,J,R,u,C⟩:=qAR;exact qy0 (eU.push (e:=FT) (x:=((x,n,i):qr)) h vW (qwX _) oK J R u rfl rfl (by rw[C];omega) oJ I) G
section
variable {dbk pb:Nat} {FD F:Ik} {D:dJ} {M:dV} {k v:Nat} {frm to:Key} {down:Bool} {w0 w wA:Ic} {cb:Nat} {Y SB:Ik} {st:Sl} {zs:List qr} {x:kz} {n:dM} {i:Int}
def qsg{S:Ik}{K:Int->WP}(h:gb dbk pb FD D F M k v frm to down w0 cb Y w st SB zs)(u:eF (cb::(SB++Y)) w x n)(C:fL n.J6)(E:n.J6.length<=1000000)(G:∀w',Fr [] w w'->K (jE down frm to n) w'):dZ Tryz.prog (mN cb down) [.agg (eN x)] di w K:=by
 obtain⟨V,J,I,R,U⟩:=h.cell;cases down with
 | false=>exact zp (ra:=[dG cb]) rfl oK (qyA I u R h.wL C E G)
 | true=>exact zp (ra:=[dG cb]) rfl oK (qwL I u U h.Hd C E G)
def qx4{K:Int->WP}(hi:-1000000<=i/\i<=1000000)(h:K (jJ down i) w):dZ Tryz.prog (mB cb down) [.i i] di w K:=by
 cases down with
 | false=>exact zp (ra:=[dG cb]) rfl oK (qBw hi h)
 | true=>exact zp (ra:=[dG cb]) rfl oK (qzS hi h)
def qAk{ks:Sl}{key:Key}{K:Bool->WP}(h:gb dbk pb FD D F M k v frm to down w0 cb Y w st SB zs)(u:en (cb::(SB++Y)) w ks key)(C:eI key)(E:K (nc down frm to key) w):dZ Tryz.prog (nU cb down) [ks.v] dj w K:=by
 obtain⟨U,I,G,J,R⟩:=h.cell;cases down with
 | false=>exact zp (ra:=[dG cb]) rfl oK (qyq G u R C h.Hd E)
 | true=>exact zp (ra:=[dG cb]) rfl oK (qyv G u J C h.wL E)
def gb.J0{T:Ik}{L:Ip}(C:gb dbk pb FD D F M k v frm to down w0 cb Y wA st SB zs)(h:dR T wA w L)(E:∀b∈T,b∈Y):gb dbk pb FD D F M k v frm to down w0 cb Y w st SB zs:=
 C.q8 (h.fr.mono λb u _=>E b u) (λb u=>.inl u) λb u=>yC (C.lt b (by simp[u])) h.fr.size
def eF.wN{T:Ik}{L:Ip}(C:eF (cb::(SB++Y)) wA x n)(h:dR T wA w L)(E:∀b∈T,b∈Y):eF (cb::(SB++Y)) w x n:=
 C.q8 (h.fr.mono λb u _=>by simp[E b u]) λb u=>.inl u
def qqP{T:Ik}{C E:Nat}{X:Int->WP}{K:Unit->WP}(hA:gb dbk pb FD D F M k v frm to down w0 cb Y wA st SB zs)(hN:eF (cb::(SB++Y)) wA x n)(h:dR T wA w [(C,.c (AT fD 0) FT),(E,.c (eN x) ND)])(hT:∀b∈T,b∈Y)(hl:zs.length+1<=100000)(ai:fH n k v)(hI:n.Q4=false->∃j:Nat,i=j/\j<n.J9.length)(G:∀w' st' SB',gb dbk pb FD D F M k v frm to down w0 cb Y w' st' SB' (zs++[(x,n,i)])->Fr (cb::(SB++T)) wA w'->(∀b∈SB',b∈SB\/wA.heap.size<=b)->if n.Q4 then K () w' else X (n.J9.getD i.toNat 0) w'): C5 (pW cb) K C x i w E X:=by
 unfold C5;refine oD h 0 rfl (AT x i) λw1 h f1=>?_;have h:=oF h;have hC:=hA.J0 h hT;refine fu (hC.pH ?_);refine Ij h 0 rfl (x.1,x.2.1,x.2.2.1,x.2.2.2,i)<|qA6 (x:=x) (n:=n) (i:=i) hC.ue oJ (λw' f=>?_) λs' B' w2 aj f2 n2=>?_;obtain⟨sf,az,T,J⟩:=(hC.q7 f).at
 exact jp J;refine fu ?_;have R:=eX (h.at (i:=1) rfl);have U:=eX (h.at (i:=0) rfl);have al:=h.fr.size;have am:=hN.wN h hT;refine hC.tz w2 f2 aj (λz hz=>(zD.1 hz).imp id λhz=>?_) n2 (by rw[zF];exact hl) λV h3 f3=>?_;rw[zE.1 hz];refine⟨am.q8 (f2.mono λb u _=>by simp[u]) λb u=>?_,ai⟩;rcases zG.1 u with rfl|u;exact .inl oL;rcases zD.1 u with u|u;exact (n2 b u).imp (λh=>by simp[h]) id;exact .inl (by simp[u]);have f4:Fr (cb::(SB++T)) wA V:=(h.fr.mono λb u _=>by simp[u]).trans (f3.mono λb u _=>by rcases zG.1 u with rfl|u<;>simp[*]);have aa:∀r,r∈T\/wA.heap.size<=r->r∉cb::SB:=λr hr hm=>by
  rcases hr with hr|hr;rcases zG.1 hm with rfl|hm;exact hA.AH (hT _ hr);exact hA.wT r hm (hT r hr);have:=hA.lt r (by rcases zG.1 hm with rfl|hm<;>simp[*]);omega
 have ad:V.heap[E]?=some (.c (eN x) ND):=(by rw[f3.block E R (aa E (h.own (E,.c (eN x) ND) oL))];exact h.at (i:=1) rfl);have ap:V.heap[C]?=some (.c (AT x i) FT):=(by rw[f3.block C U (aa C (h.own (C,.c (AT x i) FT) oL))];exact h.at (i:=0) rfl);have G:=G V s' B' h3 f4 λb u=>(n2 b u).imp id λh=>zL al h;have I:x.1=n.Q4:=hN.1;refine io ad x.1 rfl ?_;apply dX<;>intro J;rw[<- I,J,iP rfl] at G;exact G;rw[<- I,J,iN oM] at G;refine io ad x.2.2.2 rfl<|io ap i rfl ?_;obtain⟨j,rfl,hj⟩:=hI (by rw[<- I,J]);have ae:ee iw 1 (cb::(B'++Y)) V x.2.2.2 n.J9:=(h3.nodes (x,n,(j:Int)) oL).1.2.2.2.2;refine ee.get ae j rfl (zA hj) (y:=n.J9[j]) rfl ?_;rw[zJ,yQ,zA hj] at G;exact G
def qxD{T:Ik}{J:Nat}{X:Int->WP}{K:Unit->WP}(E:gb dbk pb FD D F M k v frm to down w0 cb Y wA st SB zs)(R:eF (cb::(SB++Y)) wA x n)(h:dR T wA w [(J,.c (eN fD) ND)])(C:∀b∈T,b∈Y)(hl:zs.length+1<=100000)(u:fH n k v)(hI:n.Q4=false->∃j:Nat,jE down frm to n=j/\j<n.J9.length)(kk:∀w' st' SB',gb dbk pb FD D F M k v frm to down w0 cb Y w' st' SB' (zs++[(x,n,jE down frm to n)])->Fr (cb::(SB++T)) wA w'->(∀b∈SB',b∈SB\/wA.heap.size<=b)->if n.Q4 then K () w' else X (n.J9.getD (jE down frm to n).toNat 0) w'): BP (pW cb) K J (x,0) w X:=by
 unfold BP;refine oD h 0 rfl (eN x) λw1 h f1=>?_;have h:=oF h;refine HM rfl<|⟨?_,?_⟩;refine Ij h 0 rfl x ?_;obtain⟨U,G,T,I⟩:=(E.J0 h C).at;refine fu (pB (mN cb down) (jp I) ?_);refine Ij h 0 rfl x<|qsg (S:=[]) (E.J0 h C) (R.wN h C) u.2.2.1 (by have:=(uQ u).1;omega) λw2 V=>?_;have h:=h.q7 V;refine ik (h.cells 0)<|oB h λaa w3 e3 f3 h=>?_;obtain⟨U,G,T,I⟩:=(E.J0 h C).at
 exact mQ (h.cells 1) (jp I) (h.cells 1)<|qqP E R h C hl u hI kk;refine Ij h 0 rfl x ?_;obtain⟨U,G,T,I⟩:=(E.J0 h C).at;refine fu (pB (mN cb down) (jp I) ?_);refine Ij h 0 rfl x<|oB h λaa w3 e3 f3 h=>?_;obtain⟨U,G,T,I⟩:=(E.J0 h C).at
 refine mQ (h.cells 1) (jp I) (h.cells 1)<|qsg (S:=[]) (E.J0 h C) (R.wN h C) u.2.2.1 (by have:=(uQ u).1;omega) λw2 V=>?_;have h:=h.q7 V;exact ik (h.cells 1)<|qqP E R h C hl u hI kk
def qp5{s:ia}{h:Nat}{K:Unit->WP}(hs:Has D M k v h s)(hu:gE s.x5)(hC:gb dbk pb FD D F M k v frm to down w0 cb Y w st SB zs)(hl:zs.length+h+1<=100000)(kk:∀w' st' SB' zs',gb dbk pb FD D F M k v frm to down w0 cb Y w' st' SB' (zs++zs')->iz D k v M (jE down frm to) (h+1) s.x5=some (zs'.map (·.2))->Fr (cb::SB) w w'->(∀b∈SB',b∈SB\/w.heap.size<=b)->K () w'): cW 82 [dG cb,.u s.x5] [] w K:=by
 refine qhT<|Cn (λ(hh:Nat) p w'=>∃(sg:ia) (E:List qr) (ae:Sl) (J:Ik),p=sg.x5/\gE sg.x5/\Has D M k v hh sg/\gb dbk pb FD D F M k v frm to down w0 cb Y w' ae J (zs++E)/\(iz D k v M (jE down frm to) (hh+1) sg.x5).map (E.map (·.2)++·)=iz D k v M (jE down frm to) (h+1) s.x5/\E.length+hh=h/\Fr (cb::SB) w w'/\∀b∈J,b∈SB\/w.heap.size<=b) id h ⟨s,[],st,SB,rfl,hu,hs,by rw[xG];exact hC,oL,oL,.refl _ _,λb C=>.inl C⟩ ?_;rintro hh p w1 ⟨sg,E,ae,J,rfl,aI,av,aa,aw,a1,f1,n1⟩ X hX;have I:∃n,dK D M k v sg.x5=(n,0)/\(n.Q4=true->hh=0)/\(n.Q4=false->∃h2 U,hh=h2+1/\n=dN U/\∃hj:eu n.J6 (if down then to else frm)<U.length,n.J9.getD (eu n.J6 (if down then to else frm)) 0=U[eu n.J6 (if down then to else frm)].2.x5/\Has D M k v h2 U[eu n.J6 (if down then to else frm)].2):=by
  cases hh with
  | zero=>
   obtain⟨h1,h2,h3,h4⟩:=av;exact⟨_,h3.load h4,λ_=>rfl,(λe=>nomatch e)⟩
  | succ h2=>
   obtain⟨U,e1,hj,e2,e3⟩:=qyP (key:=if down then to else frm) av;exact⟨_,e1,(λe=>nomatch e),λ_=>⟨h2,U,rfl,rfl,hj,e2,e3⟩⟩
 obtain⟨n,I,aK,ax⟩:=I;have ay:=AL I;obtain⟨l1,l2,l3,l4,l5⟩:=uQ ay;have am:(dI D M sg.x5).2.2=0/\iy (dI D M sg.x5).1 (dI D M sg.x5).2.1 k v=(n,0):=by unfold dK at I;split at I;rename_i af;exact absurd (vA I).2 af;rename_i he;exact⟨oJ,I⟩
 have az:eI (dI D M sg.x5).2.1:=qh5 aa.tw.lim.ok (λe he=>(aa.tw.wf.body e he).2.2) _;have aL:(zs++E).length+1<=100000:=(by rw[zF];omega);have hI:n.Q4=false->∃j:Nat,jE down frm to n=j/\j<n.J9.length:=λe=>by
  obtain⟨h2,U,_,rfl,hj,_⟩:=ax e;refine⟨_,?_,by show _<(U.map _).length;rw[zK];exact hj⟩;cases down with
  | false=>
   show jN (dN U) frm=_;exact iN (λg=>nomatch g)
  | true=>
   show ip (dN U) to=_;exact iN (λg=>nomatch g)
 have ai:∀(x:kz) (Y' T:Ik) (wA wB:Ic) (r:Nat),gb dbk pb FD D F M k v frm to down w0 cb Y' wA ae J (zs++E)->eF (cb::(J++Y')) wA x n->dR T wA wB [(r,.c (eN fD) ND)]->(∀b∈T,b∈Y')->(∀b∈T,w1.heap.size<=b)->(∀b∈Y,b∈Y')->Fr [] w1 wA->BP (pW cb) K r (x,0) wB X:=by
  intro x Y' T wA wB r hA hN hO hT aN hY fA;refine qxD hA hN hO hT aL ay hI λw2 an ag G f2 n2=>?_;have G:gb dbk pb FD D F M k v frm to down w0 cb Y w2 an ag (zs++(E++[(x,n,jE down frm to n)])):=by rw[<- zV];exact G.q8 (.refl _ _) (λb C=>.inl (hY b C)) λb C=>G.lt b (by simp[hY b C])
  have f3:Fr (cb::SB) w w2:=f1.j8 ((fA.mono λ_ h=>nomatch h).trans f2) λb C=>by rcases zG.1 C with rfl|C;exact .inl oL;rcases zD.1 C with C|C;exact (n1 b C).imp (λh=>by simp[h]) id;exact .inr (zL f1.size (aN b C))
  have n3:∀b∈ag,b∈SB\/w.heap.size<=b:=λb C=>by rcases n2 b C with h|h;exact n1 b h;exact .inr (zL f1.size (zL fA.size h))
  by_cases hlf2:n.Q4=true;rw[iP hlf2];obtain rfl:=aK hlf2;refine kk w2 an ag (E++[(x,n,jE down frm to n)]) G ?_ f3 n3;rw[<- aw,iz,I,iN λh=>h rfl,iP hlf2];simp
  ·rw[iN hlf2];have aA:n.Q4=false:=(oP hlf2);obtain⟨h2,U,rfl,af,hj,ao,hk⟩:=ax aA;have aB:jE down frm to n=((eu n.J6 (if down then to else frm):Nat):Int):=by
    cases down with
    | false=>
     show jN n frm=_;exact iN hlf2
    | true=>
     show ip n to=_;exact iN hlf2
   rw[aB,zJ,ao];refine hX h2 _ w2 ⟨_,E++[(x,n,jE down frm to n)],an,ag,rfl,?_,hk,G,?_,by rw[zF,xL];omega,f3,n3⟩ (Nat.lt_succ_self _);rw[<- ao];have aC:eu n.J6 (if down then to else frm)<n.J9.length:=(by rw[af];show _<(U.map _).length;rw[zK,<- af];exact hj);rw[yQ,zA aC];exact hN.2.1.2.2 _ (zW aC)
   ·rw[<- aw];conv=>rhs;rw[iz,I,iN λh=>h rfl,iN hlf2]
    dsimp only;rw[aB,zJ,ao,Option.map_map];simp[Function.comp_def]
 obtain⟨sf,ap,T,V⟩:=aa.at;refine fu (pB (pW pb) (jp V) ?_);refine TW.read aa.tw aI λsb w2 aD f2=>?_;have G:=(aa.q7 f2).drew;refine HM (by dsimp only;rw[am.1];rfl) ?_;obtain⟨sf,ap,T,V⟩:=G.at;have ab:=G.lt;refine⟨?_,?_⟩;refine fu (pB (k:Int) (jp V) ?_);refine fu (pB (v:Int) (jp V) ?_);refine G7 (k:=k) (v:=v) (aD [] λ_ h=>nomatch h) az λx B w3 hN f3 aq=>?_;rw[am.2] at hN⊢;have R:=G.q7 f3;refine oB (oE [] w3) λr w4 e4 f4 h=>?_;obtain⟨sf,ap,T,V⟩:=(R.q7 f4).at;refine ky (jp V) (jp V)<|ai x Y [] w3 w4 r R (hN.rd (λb C hm=>?_) λb C=>.inl ?_) h (λ_ h=>nomatch h) (λ_ h=>nomatch h) (λb C=>C) (f2.drew.trans f3);have:=aq b C;have:=ab b hm;omega;have:b<w2.heap.size:=ab b C;exact zH _ (mem_range.2 this);refine fu (pB (k:Int) (jp V) ?_);refine fu (pB (v:Int) (jp V) ?_);refine oB (oE [] w2.drew) λr w3 e3 f3 h=>?_;have aQ:=eX (h.at (i:=0) rfl);have R:gb dbk pb FD D F M k v frm to down w0 cb (r::Y) w3 ae J (zs++E):=G.q8 (f3.mono λ_ h=>nomatch h) (λb C=>(zG.1 C).elim (λe=>.inr (by rw[e,e3];exact zM _)) .inl) λb C=>by rcases zG.1 C with rfl|C;exact aQ;exact yC (ab b (by simp[C])) f3.size
 obtain⟨sf,ap,T,V⟩:=R.at;refine ky (jp V) (jp V)<|G7 (k:=k) (v:=v) (ee.q7 (w:=w2.drew) (aD [] λ_ h=>nomatch h) f3) az λx B w4 hN f4 aq=>?_;rw[am.2] at hN⊢;have ak:=R.lt;refine ai x (r::Y) [r] w4 w4 r (R.q7 f4) (hN.rd (λb C hm=>?_) λb C=>.inl ?_) (Ev ((h.q7 f4).at (i:=0) rfl)) (λb C=>by rw[zE.1 C];simp) (λb C=>?_) (λb C=>by simp[C]) ((f2.drew.trans f3).trans f4)
 have:=aq b C;have:=ak b hm;omega;exact zH _ (mem_range.2 (ak b C));rw[zE.1 C,e3];exact f2.size
end
end
section
open Go Go.Pt List
open Go.IntKind (wrap)
open Classical
attribute [local irreducible] ld dL gZ mP i3 fc st new idx i4 jg fB jk iO lS gB nn call dZ inv run eW iC join loop held ext jU eH mv mp mA IntKind.wrap
section
variable {dbk pb:Nat} {FD F:Ik} {D:dJ} {M:dV} {k v:Nat} {frm to:Key} {down:Bool} {w0 w wA:Ic} {cb:Nat} {Y SB:Ik} {st:Sl} {zs:List qr}
def gb.kL{c:Cell}{b j:Nat}{z:qr}{K:c.El->Prop}(h:gb dbk pb FD D F M k v frm to down w0 cb Y w st [b] (zs++[z]))(u:j<5)(x:c.El)(C:(iV z)[j]?=some (c.mk x))(E:K x):ld c ⟨b,zs.length*5+j,none⟩ w K:=
 pB x ((qzl h.ue u).trans C) E
def qwM{h:Nat}{K:Unit->WP}(hp:Path D M k v (jJ down) h (zs.map (·.2)))(hC:gb dbk pb FD D F M k v frm to down w0 cb Y w st SB zs)(kk:∀w' st' SB' zs',gb dbk pb FD D F M k v frm to down w0 cb Y w' st' SB' zs'->zs'.map (·.2)=(iq D k v M (jE down frm to) (jJ down) h (zs.map (·.2))).getD []->Fr (cb::SB) w w'->(∀b∈SB',b∈SB\/w.heap.size<=b)->K () w'): cW 84 [dG cb] [] w K:=by
 refine qhS ?_;have J:=hp.len;have aU:=hC.Ax;rw[zK] at J;refine Cn (λ(ab:List kA) (_:PUnit) w'=>∃(u:List qr) (z:qr) (C:List kA) (h1:Nat) (al:Sl) (ac:Ik),u.map (·.2)=ab/\gb dbk pb FD D F M k v frm to down w0 cb Y w' al ac (u++[z])/\zs.map (·.2)=ab++C/\ab.length+h1=h/\iq D k v M (jE down frm to) (jJ down) h1 C=none/\Fr (cb::SB) w w'/\∀b∈ac,b∈SB\/w.heap.size<=b) List.length (zs.map (·.2)).dropLast ?_ ?_
 ·have I:zs≠[]:=λe=>by rw[e] at J;simp at J
  have hz:=(xZ I).symm;refine⟨zs.dropLast,zs.getLast I,[(zs.getLast I).2],0,st,SB,by rw[map_dropLast],by rw[<- hz];exact hC,?_,by simp;omega,rfl,.refl _ _,λb G=>.inl G⟩;conv=>lhs;rw[hz]
  simp
 rintro ab _ w1 ⟨u,z,C,h1,al,ac,rfl,ad,hz,hh,hn,f1,n1⟩ X hX;have av:=ad.Ax;rw[zF,xL] at av;have aF:al.len=u.length+1:=(by rw[ad.ue.len,zF];rfl);refine fu (ad.pH (HK (by rw[aF];exact zZ oJ) ?_));have ae:=ad.drew;refine fu (ae.pH ?_);refine fu (ae.pH ?_);refine qAx ae.ue oJ λs2 ax=>?_;refine fu ?_;refine ae.tz w1.drew (.refl _ _) ax (λz hz=>.inl (zH _ hz)) (λb G=>.inl G) oJ λw2 am f2=>?_;have ay:Fr (cb::SB) w w2:=f1.j8 ((Fr.refl _ w1).drew.trans f2) λb G=>by rcases zG.1 G with rfl|G;exact .inl oL;exact (n1 b G).imp (λh=>by simp[h]) id
 refine fu (am.pH ?_);have az:s2.len=u.length:=ax.len;apply dX<;>intro hc;have hc:(s2.len:Int)=0:=yO.1 hc;have e0:u=[]:=length_eq_zero_iff.1 oJ;subst e0;refine kk w2 s2 ac [] am ?_ ay n1;rw[hz,map_nil,xH];have:h1=h:=(oP hh);rw[<- this,hn];rfl;have hc:¬(s2.len:Int)=0:=zR.1 hc;have I:u≠[]:=λe=>by rw[e] at az;simp at az;omega
 obtain⟨R,y,rfl⟩:∃R y,u=R++[y]:=⟨u.dropLast,u.getLast I,(xZ I).symm⟩;rw[xM,xN,map_nil,zV,singleton_append] at hz;rw[xM,xN,map_nil,zF,xL] at hh;have af:(R.map (·.2)).length+(h1+1)=h:=oJ;have an:Path D M k v (jJ down) (h1+1) (y.2::C):=by rw[hz,<- af] at hp;exact hp.drop
 obtain⟨E,i,up,ey,a3,a4,aB,_⟩:=an;obtain⟨yx,yf⟩:=y;have aG:yf=(dN E,i):=(vB ey).1;subst aG;have ag:=am.drew;rw[zF,xL] at av;refine fu (ag.pH ?_);refine fu (ag.pH ?_);refine quP ag.ue oJ λb hB=>?_;subst hB;have ah:=ag.drew;obtain⟨sf,a7,T,aH⟩:=ah.at;have ap:=ah.nodes (yx,dN E,i) oL;have ai:(dN E).J9.length=E.length:=(by show (E.map (·.2.x5)).length=_;rw[zK]);have aX:E.length<=498:=(by rw[<- ai];exact (uQ ap.2).2.2.1);refine fu (pB (mB cb down) (jp aH) ?_);refine ah.kL (j:=4) oM i rfl ?_;refine qx4 oJ ?_;have aY:-1<=jJ down i/\jJ down i<=1000000:=(by unfold jJ;split<;>omega);refine ah.vq λw3 aI f3=>?_;have U:=aI.drew;have aq:Fr (cb::SB) w w3:=ay.j8 (((Fr.refl _ w2).drew.drew).trans f3) λb' G=>by rw[zE.1 G];exact (n1 b oL).imp (λh=>by simp[h]) id
 have aJ:yx.2.2.2.len=E.length:=(by rw[ap.1.2.2.2.2.1,ai]);have V:=qvQ (x:=(dN E,i)) hn;refine gP (λq w'=>q=decide (0<=jJ down i/\jJ down i<E.length)/\w'=w3.drew) ?_ ?_;refine U.kL (j:=4) oM (jJ down i) rfl ?_;apply dX<;>intro h;have h:=zC h;refine U.kL (j:=4) oM (jJ down i) rfl ?_;refine U.kL (j:=3) oM yx.2.2.2 rfl ?_;exact⟨decide_eq_decide.2 (by rw[aJ];omega),rfl⟩;have h:=zB h;exact⟨(zU λg=>h g.1).symm,rfl⟩;rintro q w4 ⟨rfl,rfl⟩;have aj:=U.drew;apply dX<;>intro h;obtain⟨h5,h6⟩:=zC h;obtain⟨j,hj⟩:∃j:Nat,jJ down i=j:=⟨(jJ down i).toNat,oJ⟩;have aC:j<E.length:=oJ;refine aj.kL (j:=3) oM yx.2.2.2 rfl ?_;refine aj.kL (j:=4) oM (jJ down i) rfl ?_;have aL:ee iw 1 _ w3.drew.drew yx.2.2.2 (dN E).J9:=(aj.nodes (yx,dN E,jJ down i) oL).1.2.2.2.2;have ar:(dN E).J9[j]?=some E[j].2.x5:=(by show (E.map (·.2.x5))[j]?=_;rw[zQ,zA aC];rfl);refine ee.get aL j hj ar (y:=E[j].2.x5) rfl ?_;refine qp5 (aB j hj aC) (ap.1.2.1.2.2 _ (yE ar)) aj (by rw[zF,xL];rw[zK] at af;omega) λw5 aM aN aO aP aQ f5 n5=>?_;refine kk w5 aM aN _ aP ?_ (aq.j8 ((Fr.refl _ w3).drew.drew.trans f5) λb' G=>?_) λb' G=>?_;have e1:iq D k v M (jE down frm to) (jJ down) (h1+1) ((dN E,i)::C)=some ((dN E,jJ down i)::aO.map (·.2)):=(by rw[V,tC,iP ⟨by dsimp only;omega,by dsimp only;rw[ai];exact h6⟩];dsimp only;rw[hj,zJ,yQ,ar];simp only[xU];rw[aQ];rfl);rw[hz,<- af,qqD e1];simp;rcases zG.1 G with rfl|G;exact .inl oL;exact (n1 b' G).imp (λh=>by simp[h]) id;rcases n5 b' G with h|h;exact n1 b' h;exact .inr (zL aq.size h);have h:=zB h;refine hX (R.map (·.2)) _ _ ⟨R,(yx,dN E,jJ down i),(dN E,i)::C,h1+1,s2,[b],rfl,U,hz,af,?_,aq.drew,n1⟩ ?_;rw[V,tC,iN λg=>h ⟨g.1,by have:=g.2;dsimp only at this;rw[ai] at this;exact this⟩];simp
end
end
section
open Go Go.Pt List
open Go.IntKind (wrap)
open Classical
section
variable {D:dJ} {M:dV} {k v:Nat} {frm to:Key} {down:Bool}
def lJ (D:dJ) (M:dV) (k v:Nat) (frm to:Key) (down:Bool) (h:Nat) (u:List kA) (T:fP):Prop:=if down then mh D M k v to h u T else l9 D M k v frm h u T
def ow (down:Bool) (h:Nat) (u:List kA):Prop:=if down then kj h u else kc h u
def lJ.path{h:Nat}{u:List kA}{T:fP}(C:lJ D M k v frm to down h u T):Path D M k v (jJ down) h u:=by
 cases down with
 | false=>exact l9.path (frm:=frm) C
 | true=>exact mh.path (to:=to) C
def lJ.told{h:Nat}{C:List kA}{T:fP}(E:lJ D M k v frm to down h C T):ow down h C\/∃(u:fP) (i:Nat) (lo:List kA) (hi:i<u.length) (T':fP),C=lo++[(eh u,(i:Int))]/\T=u[i]::T'/\lJ D M k v frm to down h (lo++[(eh u,jJ down i)]) T':=by
 cases down with
 | false=>exact quQ (frm:=frm) E
 | true=>exact qq7 (to:=to) E
def lJ.next{h:Nat}{E:List kA}{T:fP}(G:lJ D M k v frm to down h E T)(I:ow down h E):(iq D k v M (jE down frm to) (jJ down) h E=none/\T=[])\/∃u,iq D k v M (jE down frm to) (jJ down) h E=some u/\lJ D M k v frm to down h u T/\¬ow down h u:=by
 cases down with
 | false=>
  rcases quJ (frm:=frm) G I with C|⟨u,C,J⟩;exact .inl C;exact .inr ⟨u,C,J,qjy (frm:=frm) G I C⟩
 | true=>
  rcases qqE (to:=to) G I with C|⟨u,C,J⟩;exact .inl C;exact .inr ⟨u,C,J,qg0 (to:=to) G I C⟩
def kc.pI:∀ {h:Nat} {C:List kA},kc h C->∃(lo:List kA) (u:fP),C=lo++[(eh u,(u.length:Int))]
 | 0,_,⟨u,e⟩=>⟨[],u,e⟩
 | _+1,[],h=>h.elim
 | h+1,x::G,E=>by obtain⟨lo,u,e⟩:=kc.pI (h:=h) E;exact⟨x::lo,u,by rw[e];rfl⟩
def kj.pI:∀ {h:Nat} {C:List kA},kj h C->∃(lo:List kA) (u:fP),C=lo++[(eh u,-1)]
 | 0,_,⟨u,e⟩=>⟨[],u,e⟩
 | _+1,[],h=>h.elim
 | h+1,x::G,E=>by obtain⟨lo,u,e⟩:=kj.pI (h:=h) E;exact⟨x::lo,u,by rw[e];rfl⟩
def ow.pI{h:Nat}{C:List kA}(E:ow down h C):∃(lo:List kA) (u:fP) (i:Int),C=lo++[(eh u,i)]/\¬(0<=i/\i<u.length):=by
 cases down with
 | false=>
  obtain⟨lo,u,e⟩:=kc.pI E;exact⟨lo,u,_,e,oJ⟩
 | true=>
  obtain⟨lo,u,e⟩:=kj.pI E;exact⟨lo,u,_,e,oJ⟩
def Left (D:dJ) (M:dV) (k v:Nat) (frm to:Key) (down:Bool) (n:Nat) (u:List kA) (L:fP):Prop:=
 (u=[]/\L=[])\/∃h T,lJ D M k v frm to down h u T/\L=T.takeWhile (λx=>!nc down frm to x.1)/\(n=0->¬ow down h u)
def qvX{h:Nat}{s:ia}(u:Has D M k v h s):∃C,iz D k v M (jE down frm to) (h+1) s.x5=some C/\lJ D M k v frm to down h C (if down then (ut to s.y3).reverse else mJ frm s.y3):=by
 cases down with
 | false=>exact Fw u
 | true=>exact GL u
def Ha{α:Type}{p:α->Bool}:∀ {l:List α},l.Pairwise (λa b=>p b=true->p a=true)->l.takeWhile p=l.filter p
 | [],_=>rfl
 | a::l,h=>by have C:=yI.1 h;rw[takeWhile_cons,filter_cons];split;rw[Ha C.2];rename_i E;exact (filter_eq_nil_iff.2 λb G u=>E (C.1 b G u)).symm
end
end
section
open Go Go.Pt List
open Go.IntKind (wrap)
open Classical
attribute [local irreducible] ld dL gZ mP i3 fc st new idx i4 jg fB jk iO lS gB nn call dZ inv run eW iC join loop held ext jU eH mv mp mA IntKind.wrap
variable {B S:Ik} {K:Sl->WP} {L:fP} {P:Il} {d:HL iI} {i most:Int} {k n:Nat} {l:List (HL iI)} {s:Sl} {w:Ic}
abbrev Bg:If:=104
def xb (a b:Sl):Array Ie:=#[a.v,b.v]
@[reducible] def G6:List Cell:=[.slice,.slice]
section
variable {dbk pb:Nat} {FD F:Ik} {D:dJ} {M:dV} {k v:Nat} {frm to:Key} {down:Bool} {w0 w wA:Ic} {cb:Nat} {Y SB:Ik} {st:Sl} {zs:List qr}
def qze{n:dM}(h:fH n k v)(E:n.Q4=true):k<=24/\v<=108:=by obtain⟨_,_,_,C⟩:=h;rw[iP E] at C;have u:=C.2.2.1;unfold dY at u;split at u;dsimp only at u;omega;omega
def qwm{K:(Sl×Sl)×Bool->WP}(hC:gb dbk pb FD D F M k v frm to down w0 cb Y w st SB zs)(hL:Left D M k v frm to down 1 (zs.map (·.2)) L)(k0:L=[]->∀w',gb dbk pb FD D F M k v frm to down w0 cb Y w' dH [] []->Fr (cb::SB) w w'->K ((dH,dH),false) w')(k1:∀x L',L=x::L'->∀ks vs B1 B2 w' st' SB' zs',fR w' ks x.1 B1->fR w' vs x.2 B2->gb dbk pb FD D F M k v frm to down w0 cb (B1++(B2++Y)) w' st' SB' zs'->Left D M k v frm to down 1 (zs'.map (·.2)) L'->Fr (cb::SB) w w'->(∀b∈SB',b∈SB\/w.heap.size<=b)->(∀b∈B1,w.heap.size<=b)->(∀b∈B2,w.heap.size<=b)->(∀b∈B1,b∉B2)->K ((ks,vs),true) w'): cW 40 [dG cb] [.agg G6,.one .bool] w K:=by
 refine qhP (c:=pW cb)<|oB (oE [] w) λr w1 e1 f1 h=>?_;have hrl:=eX (h.at (i:=0) rfl);dsimp only at hrl;have hltw:=hC.lt;have hC1:gb dbk pb FD D F M k v frm to down w0 cb (r::Y) w1 st SB zs:=hC.q8 (f1.mono λ_ h=>nomatch h) (λb hb=>(zG.1 hb).elim (λe=>.inr (by rw[e,e1];exact zM _)) .inl) λb hb=>by rcases zG.1 hb with rfl|hb;exact hrl;exact yC (hltw b (by simp[hb])) f1.size
 have hr1:w1.heap[r]?=some (.c (xb dH dH) Bg):=h.at (i:=0) rfl;have hrS:r∉cb::SB:=λhm=>by
  have:=hltw r (by rcases zG.1 hm with h|h<;>simp[h]);omega
 have hfr:∀ {w':Ic},Fr (cb::SB) w1 w'->w'.heap[r]?=some (.c (xb dH dH) Bg):=λf=>by rw[f.block r hrl hrS];exact hr1
 clear h;refine gP (λ_ w'=>L=[]/\Fr (cb::SB) w1 w'/\∃st' SB' zs',gb dbk pb FD D F M k v frm to down w0 cb (r::Y) w' st' SB' zs'/\∀b∈SB',b∈SB\/w1.heap.size<=b) ?_ ?_
 ·refine Cn (λ(n:Nat) (_:PUnit) w'=>Fr (cb::SB) w1 w'/\∃st' SB' zs',gb dbk pb FD D F M k v frm to down w0 cb (r::Y) w' st' SB' zs'/\(∀b∈SB',b∈SB\/w1.heap.size<=b)/\Left D M k v frm to down n (zs'.map (·.2)) L) id 1 ⟨.refl _ _,st,SB,zs,hC1,λb hb=>.inl hb,hL⟩ ?_;rintro n _ w2 ⟨f2,st2,SB2,zs2,hC2,n2,hL2⟩ X hX;refine fu (hC2.pH ?_);have hsl:st2.len=zs2.length:=hC2.ue.len;apply dX<;>intro hc;rotate_left;have hc:=zB hc;have e0:zs2=[]:=length_eq_zero_iff.1 oJ;refine⟨?_,f2,st2,SB2,zs2,hC2,n2⟩;rcases hL2 with h|⟨hh,T,ht,_,_⟩;exact h.2
  have:=ht.path.len;rw[e0] at this;simp at this;have hc:=zC hc;have hne:zs2≠[]:=λe=>by rw[e] at hsl;simp at hsl;omega
  rcases hL2 with ⟨h,_⟩|⟨hh,T,ht,hLT,hnd⟩;exact absurd (map_eq_nil_iff.1 h) hne;have htop:∃(lo:List kA) (y3:fP) (i:Int),zs2.map (·.2)=lo++[(eh y3,i)]/\((ow down hh (zs2.map (·.2))/\¬(0<=i/\i<y3.length))\/∃j:Nat,i=j/\∃hj:j<y3.length,∃T',T=y3[j]::T'/\lJ D M k v frm to down hh (lo++[(eh y3,jJ down i)]) T'):=by rcases ht.told with hd|⟨y3,j,lo,hj,T',e1,e2,e3⟩;obtain⟨lo,y3,i,e,hi⟩:=hd.pI;exact⟨lo,y3,i,e,.inl ⟨hd,hi⟩⟩;exact⟨lo,y3,j,e1,.inr ⟨j,rfl,hj,T',e2,e3⟩⟩
  obtain⟨lo,y3,i,ez,hcase⟩:=htop;obtain⟨zlo,zr,rfl,rfl,ezr⟩:=map_eq_append_iff.1 ez;obtain⟨⟨zx,zf⟩,rfl,ezf⟩:=map_eq_singleton_iff.1 ezr;have ezf:zf=(eh y3,i):=ezf;subst ezf;have hfew:=hC2.Ax;rw[zF,xL] at hfew;have hD2:=hC2.drew;refine fu (hD2.pH ?_);refine fu (hD2.pH ?_);refine quP hD2.ue oJ λb hB=>?_;subst hB;have hE2:=hD2.drew;have hny:=hE2.nodes (zx,eh y3,i) oL;have hkl:(eh y3).J6.length=y3.length:=zK ..;have hkl2:y3.length<=498:=(by rw[<- hkl];exact (uQ hny.2).1);obtain⟨hzl,hNB,⟨pk,hpk,hpke⟩,⟨pv,hpv,hpve⟩,_⟩:=hny.1;dsimp only at hzl hpk hpke hpv hpve;have hpkl:pk.length=y3.length:=(by rw[<- hkl,<- hpke,zK]);have hpvl:pv.length=y3.length:=by have:(eh y3).Q0.length=y3.length:=zK ..;rw[<- this,<- hpve,zK]
  refine gP (λq w'=>q=decide (0<=i/\i<y3.length)/\w'=w2.drew.drew) ?_ ?_;refine hE2.kL (c:=.bool) (j:=0) oM zx.1 rfl<|HK hzl<|hE2.kL (c:=.i) (j:=4) oM i rfl ?_;apply dX<;>intro h;have h:=zC h;exact hE2.kL (c:=.i) (j:=4) oM i rfl<|hE2.kL (c:=.slice) (j:=1) oM zx.2.1 rfl<|⟨decide_eq_decide.2 (by rw[hpk.len,hpkl];omega),rfl⟩;have h:=zB h;exact⟨(zU λg=>h g.1).symm,rfl⟩;rintro q w3 ⟨rfl,rfl⟩;have hpth:=ht.path;apply dX<;>intro h;rotate_left;have h:=zB h;have hd:ow down hh ((zlo++[(zx,eh y3,i)]).map (·.2)):=by rcases hcase with hd|⟨j,rfl,hj,_⟩;exact hd.1;exact absurd ⟨oJ,oJ⟩ h
  have hn1:n≠0:=λe=>hnd e hd;refine qwM hpth hE2 λw4 st4 SB4 zs4 hC4 hz4 f4 n4=>?_;have f14:Fr (cb::SB) w1 w4:=f2.j8 ((Fr.refl _ w2).drew.drew.trans f4) λb' hb=>by rcases zG.1 hb with rfl|hb;exact .inl oL;exact (n2 b' hb).imp (λh=>by simp[h]) id
  have n14:∀b'∈SB4,b'∈SB\/w1.heap.size<=b':=λb' hb=>by rcases n4 b' hb with h|h;exact n2 b' h;exact .inr (zL f2.size h)
  refine hX 0 _ w4 ⟨f14,st4,SB4,zs4,hC4,n14,?_⟩ (by show 0<n;omega);rcases ht.next hd with ⟨e2,rfl⟩|⟨fs',e2,e3,e4⟩
  rw[e2] at hz4;exact .inl ⟨hz4,hLT⟩;rw[e2] at hz4;have hz4:zs4.map (·.2)=fs':=hz4;rw[hz4];exact .inr ⟨hh,T,e3,hLT,λ_=>e4⟩;have h:=zC h;obtain⟨j,rfl,hj,T',hT,ht'⟩:∃j:Nat,i=j/\∃hj:j<y3.length,∃T',T=y3[j]::T'/\lJ D M k v frm to down hh (zlo.map (·.2)++[(eh y3,jJ down i)]) T':=by rcases hcase with hd|hd;exact absurd h hd.2;exact hd
  have hG2:=hE2.drew;refine hG2.kL (c:=.slice) (j:=1) oM zx.2.1 rfl<|hG2.kL (c:=.i) (j:=4) oM (j:Int) rfl ?_;have hjk:j<pk.length:=oJ;have hjv:j<pv.length:=oJ;refine jq.get (hpk.q7 (Fr.refl [] _).drew) j rfl hjk<|hG2.kL (c:=.slice) (j:=2) oM zx.2.2.1 rfl<|hG2.kL (c:=.i) (j:=4) oM (j:Int) rfl<|jq.get (hpv.q7 (Fr.refl [] _).drew) j rfl hjv ?_;have hH2:=hG2.drew;obtain⟨sf,sto,Tc,hcc⟩:=hH2.at;refine fu (pB (c:=.any) (mB cb down) (jp hcc) ?_);refine hH2.kL (c:=.i) (j:=4) oM (j:Int) rfl<|qx4 oJ<|hH2.vq λw5 hC5 f5=>?_;have f15:Fr (cb::SB) w1 w5:=f2.j8 ((Fr.refl _ w2).drew.drew.drew.drew.trans f5) λb' hb=>by rw[zE.1 hb];exact (n2 b oL).imp (λh=>by simp[h]) id
  obtain⟨sf,sto,Tc,hcc⟩:=hC5.at;refine fu (pB (c:=.any) (nU cb down) (jp hcc) ?_);have f5':Fr (cb::([b]++(r::Y))) w2.drew.drew w5:=(Fr.refl _ w2.drew.drew).drew.drew.trans (f5.mono λx hx _=>by rw[zE.1 hx];simp);have hks:en (cb::([b]++(r::Y))) w5 pk[j].1 pk[j].2:=(hpk.2 _ (zW hjk)).q8 f5' λx hx=>.inl hx;have hvs:en (cb::([b]++(r::Y))) w5 pv[j].1 pv[j].2:=(hpv.2 _ (zW hjv)).q8 f5' λx hx=>.inl hx;have ek:pk[j].2=y3[j].1:=by
   have:=H9 (·[j]?) hpke;dsimp only [eh] at this;rw[zQ,zQ,zA hjk,zA hj] at this;exact yN this
  have ev:pv[j].2=y3[j].2:=by
   have:=H9 (·[j]?) hpve;dsimp only [eh] at this;rw[zQ,zQ,zA hjv,zA hj] at this;exact yN this
  rw[ek] at hks;rw[ev] at hvs;have hkB:eI y3[j].1:=hNB.1 _ (zY (zW hj));have hkn:y3[j].1.length=k:=hny.2.1 _ (zY (zW hj));have hvn:y3[j].2.length=v:=hny.2.2.1 _ (zY (zW hj));have hkv:=qze hny.2 rfl;refine qAk hC5 hks hkB ?_;apply dX<;>intro ho;refine⟨?_,f15,st2,[b],_,hC5,n2⟩;rw[hLT,hT,takeWhile_cons,ho];rfl;refine xw hks oJ λs1 B1 w6 b6 f6 n6 _ _=>xw (hvs.q7 f6) oJ λs2 B2 w7 b7 f7 n7 _ _=>?_;have hr7:=hfr (f15.trans ((f6.trans f7).mono λ_ h=>nomatch h));refine qY hr7 (xb s1 s2) rfl rfl (zO rfl) λw8 hr8 f8=>DH hr8 (s1,s2) rfl ?_;have hC7:=(hC5.q7 f6).q7 f7;have hn1:∀b'∈B1,w5.heap.size<=b':=n6;have hn2:∀b'∈B2,w5.heap.size<=b':=λb' hb=>zL f6.size (n7 b' hb);have hz5:=f15.size;have hz1:=f1.size;have h12:∀b'∈B1,b'∉B2:=λb' hb hm=>by have:=b6.lt b' hb;have:=n7 b' hm;omega
  have hrn:∀b'∈B1++B2,b'≠r:=λb' hb e=>by
   rcases zD.1 hb with hb|hb;have:=hn1 b' hb;omega;have:=hn2 b' hb;omega
  have b8:fR w8 s1 y3[j].1 B1:=(b6.q7 f7).q8 f8 λb' hb hm=>hrn b' (by simp[hb]) (zE.1 hm);have b9:fR w8 s2 y3[j].2 B2:=b7.q8 f8 λb' hb hm=>hrn b' (by simp[hb]) (zE.1 hm);have hC8:gb dbk pb FD D F M k v frm to down w0 cb (B1++(B2++Y)) w8 st2 [b] (zlo++[(zx,eh y3,jJ down j)]):=by have hA:gb dbk pb FD D F M k v frm to down w0 cb (B1++(B2++(r::Y))) w7 st2 [b] (zlo++[(zx,eh y3,jJ down j)]):=hC5.q8 ((f6.trans f7).mono λ_ h=>nomatch h) (λb' hb=>?_) λb' hb=>?_;exact hA.q8 (f8.mono λb' hb _=>by rw[zE.1 hb];simp) (λb' hb=>.inl (by simp only[zD] at hb⊢;rcases hb with h|h|h<;>simp[h])) λb' hb=>yC (hA.lt b' (by simp only[zD,zG] at hb⊢;rcases hb with h|h|h<;>simp[h])) f8.size;rcases zD.1 hb with h|hb;exact .inr (hn1 b' h);rcases zD.1 hb with h|hb;exact .inr (hn2 b' h);exact .inl hb;rcases zD.1 hb with h|hb;exact (b6.q7 f7).lt b' h;rcases zD.1 hb with h|hb;exact b7.lt b' h;exact hC7.lt b' (by simp only[zG,zD];exact .inr (.inr (zG.1 hb)))
  refine k1 y3[j] (T'.takeWhile λx=>!nc down frm to x.1) (by rw[hLT,hT,takeWhile_cons,ho];rfl) s1 s2 B1 B2 w8 st2 [b] _ b8 b9 hC8 (.inr ⟨hh,T',by rw[xM];exact ht',rfl,λe=>absurd e oM⟩) ?_ (λb' hb=>(n2 b' hb).imp id λh=>zL hz1 h) (λb' hb=>zL (zL hz1 hz5) (hn1 b' hb)) (λb' hb=>zL (zL hz1 hz5) (hn2 b' hb)) h12;refine ((f1.mono λ_ h=>nomatch h).trans (f15.trans ((f6.trans f7).mono λ_ h=>nomatch h))).j8 f8 λb' hb=>.inr ?_;rw[zE.1 hb,e1];exact zM _
 rintro _ w2 ⟨hL0,f2,st2,SB2,zs2,hC2,n2⟩;refine fu<|hC2.tz (st':=dH) (SB':=[]) (zs':=[]) w2 (.refl _ _) (.nil _ _ _) (λz hz=>nomatch hz) (λb hb=>nomatch hb) (yW _) λw3 hC3 f3=>?_;have f13:Fr (cb::SB) w1 w3:=f2.j8 f3 λb hb=>by rcases zG.1 hb with rfl|hb;exact .inl oL;exact (n2 b hb).imp (λh=>by simp[h]) id
 refine qY (hfr f13) (xb dH dH) rfl rfl (zO rfl) λw4 hr4 f4=>DH hr4 (dH,dH) rfl<|k0 hL0 w4 (hC3.q8 (f4.mono λb hb _=>by rw[zE.1 hb];simp) (λb hb=>.inl (by simp[hb])) λb hb=>yC (hC3.lt b (by simp[hb])) f4.size) (((f1.mono λ_ h=>nomatch h).trans f13).j8 f4 λb hb=>.inr ?_);rw[zE.1 hb,e1];exact zM _
end
section
def ie (down:Bool) (frm to:Key) (L:fP):fP:=if down then (lA frm to L).reverse else lA frm to L
def qza{frm to:Key}(G:fg L):(mJ frm L).takeWhile (λx=>!nc false frm to x.1)=lA frm to L:=by
 unfold mJ;rw[Ha];rw[filter_filter];unfold lA;congr 1;funext x;unfold BH nc fK;have:=FM x.1 to;by_cases C:cmpL x.1 frm<0<;>by_cases u:cmpL x.1 to>0<;>simp[C,u]<;>omega;refine ((pairwise_map.1 G).filter _).imp ?_;intro a b E h;unfold nc at h⊢;simp only[Bool.false_eq_true,if_false,zT,H6] at h⊢;intro I;have C:fK to a.1:=(by unfold fK;rw[uu];omega);have u:=pw C E;unfold fK at u;rw[uu] at u;omega
def qv0{frm to:Key}(C:fg L):(ut to L).reverse.takeWhile (λx=>!nc true frm to x.1)=(lA frm to L).reverse:=by unfold ut;rw[Ha];rw[filter_reverse,filter_filter];unfold lA;congr 2;funext x;have e:fK to x.1↔cmpL x.1 to>0:=(by unfold fK;rw[uu to x.1];omega);have E:decide (cmpL x.1 frm>=0) = !decide (cmpL x.1 frm<0):=(by rw[<- decide_not];exact decide_eq_decide.2 oJ);have G:decide (¬fK to x.1)=decide (cmpL x.1 to<=0):=decide_eq_decide.2 (by rw[e];omega);unfold BH nc;simp only[if_true];rw[E,G];rw[pairwise_reverse];refine ((pairwise_map.1 C).filter _).imp ?_;intro a b u h;unfold nc at h⊢;simp only[if_true,zT,H6] at h⊢;intro I;exact h (pw u I)
section
variable {dbk pb:Nat} {FD F:Ik} {D:dJ} {M:dV} {k v:Nat} {frm to:Key} {down:Bool} {w0 w wA:Ic} {cb:Nat} {Y SB:Ik} {st:Sl} {zs:List qr}
def fR.cT{w:Ic}{l:Il}(h:fR w s l B)(u:∀b∈B,b∉S):en S w s l:=h.jz lc u
def qyo{t:Int}{sf sto:Sl}{K:Option Addr->WP}(hT:TW dbk pb FD D 900000 w Y F M)(hs:rz t=((k:Int),(v:Int)))(hL:(k=0/\L=[])\/(k≠0/\fQ D M k v t L P))(hLl:L.length<=90000)(hf:en S w sf frm)(ht:en S w sto to)(hfl:frm.length<=1000000)(htl:to.length<=1000000)(hfB:eI frm)(htB:eI to)(kk:∀cb w' st SB zs,gb dbk pb FD D F M k v frm to down w cb Y w' st SB zs->Left D M k v frm to down 1 (zs.map (·.2)) (ie down frm to L)->Fr [] w w'->K (pW cb) w'): cW 37 [dG pb,.i t,sf.v,sto.v,.bool down] dt w K:=by
 refine qnT (p:=pW pb) (t:=t) (from_:=sf) (to:=sto) (down:=down)<|qrS ?_;rw[hs];refine xw hf hfl λs1 B1 w1 b1 f1 n1 _ _=>xw (ht.q7 f1) htl λs2 B2 w2 b2 f2 n2 _ _=>oB (oE [] w2) λcb w3 e3 f3 h=>?_;have hnf:(#[dG pb,.i (k:Int),.i (v:Int),s1.v,s2.v,.slice none 0 0,.nilFunc,.nilFunc,.nilFunc]:Array Ie)=(pz.cells ⟨pb,k,v,s1,s2,dH,.nilFunc,.nilFunc,.nilFunc⟩):=rfl;refine oD h 0 rfl (pz.cells ⟨pb,k,v,s1,s2,dH,mB cb false,.nilFunc,.nilFunc⟩) λw4 h f4=>oD h 0 rfl (pz.cells ⟨pb,k,v,s1,s2,dH,mB cb false,mN cb false,.nilFunc⟩) λw5 h f5=>oD h 0 rfl (pz.cells ⟨pb,k,v,s1,s2,dH,mB cb false,mN cb false,nU cb false⟩) λw6 h f6=>gP (λ_ w'=>∃T,dR [] w2 w' [(cb,.c (pz.cells ⟨pb,k,v,s1,s2,dH,mB cb down,mN cb down,nU cb down⟩) T)]) ?_ ?_;cases down with
 | false=>exact HM rfl ⟨_,h⟩
 | true=>
  exact HK rfl<|oD h 0 rfl (pz.cells ⟨pb,k,v,s1,s2,dH,mB cb true,mN cb false,nU cb false⟩) λw7 h f7=>oD h 0 rfl (pz.cells ⟨pb,k,v,s1,s2,dH,mB cb true,mN cb true,nU cb false⟩) λw8 h f8=>oD h 0 rfl (pz.cells ⟨pb,k,v,s1,s2,dH,mB cb true,mN cb true,nU cb true⟩) λw9 h f9=>⟨_,h⟩
 rintro _ w7 ⟨T,h⟩;have f07:Fr [] w w7:=(f1.trans f2).trans h.fr;have hcl:=eX (h.at (i:=0) rfl);dsimp only at hcl;have hz1:=f1.size;have hz2:=f2.size;have hT7:=hT.q7 f07;have hylt:=hT.qw;have hcw:w.heap.size<=cb:=oJ;have hC:gb dbk pb FD D F M k v frm to down w cb Y w7 dH [] []:=by
  refine⟨⟨s1,s2,⟨T,h.at (i:=0) rfl⟩,fR.cT ((b1.q7 f2).q7 h.fr) λb hb hm=>?_,fR.cT (b2.q7 h.fr) λb hb hm=>?_⟩,?_,.nil _ _ _,(λz hz=>nomatch hz),(λh=>nomatch h),(λhm=>?_),(λb hb=>nomatch hb),(λb hb=>?_),hfB,htB,yW _⟩;have:=b1.lt b hb;have:=n1 b hb;rcases zG.1 hm with rfl|hm;omega;have:=hylt b (oP hm);omega;have:=b2.lt b hb;have:=n2 b hb;rcases zG.1 hm with rfl|hm;omega;have:=hylt b (oP hm);omega;exact hT.Bh (B:=[cb]) (f07.mono λ_ h=>nomatch h) λb hb=>by rw[zE.1 hb];exact⟨hcw,hcl⟩
  have:=hylt cb hm;omega;rw[zE.1 hb];exact hcw
 refine gP (λ_ w'=>∃st SB zs,gb dbk pb FD D F M k v frm to down w cb Y w' st SB zs/\Left D M k v frm to down 1 (zs.map (·.2)) (ie down frm to L)/\Fr [] w w') ?_ ?_;refine TW.J5 hT7 λw8 f8=>?_;have hC8:=hC.q7 f8;refine gP (λq w'=>q=decide (0<k/\(dW M t).1≠0)/\w'=w8) ?_ ?_;refine dX (λh=>⟨?_,rfl⟩) λh=>⟨?_,rfl⟩;have h:=zC h;rw[HR,yM,zT,zR];exact⟨λg=>⟨oJ,g⟩,λg=>g.2⟩;have h:=zB h;exact (zU λg=>h oJ).symm;rintro q w9 ⟨rfl,rfl⟩;have h0:L=[]->Left D M k v frm to down 1 ([]:List kA) (ie down frm to L):=λe=>.inl ⟨rfl,by rw[e];unfold ie lA;simp⟩;apply dX<;>intro hq;obtain⟨hk,hr⟩:=zC hq;obtain⟨_,hTr⟩:k≠0/\fQ D M k v t L P:=hL.resolve_left λh=>by omega
 have hrh:=(qhk hTr).1;rcases hTr with ⟨e,_,_⟩|⟨hh,n,p,hp,e,hHas⟩;rw[e] at hr;exact absurd rfl hr;have hrh2:hh+1<=L.length:=by rw[e] at hrh;exact hrh
 have hpu:gE p:=by
  have:=(Cq hT.wf t).1;rw[e] at this;exact this
 rw[e];refine qp5 (s:=⟨p,n,L,P⟩) hHas hpu hC8 (by show 0+hh+1<=100000;omega) λw10 st10 SB10 zs10 hC10 hp10 f10 n10=>⟨st10,SB10,zs10,hC10,?_,(f07.trans f8).j8 f10 λb hb=>.inr ?_⟩;obtain⟨fs,e1,e2⟩:=qvX (frm:=frm) (to:=to) (down:=down) hHas;rw[hp10] at e1;have e1:=yN e1;rw[e1];refine .inr ⟨hh,_,e2,?_,λe=>absurd e oM⟩;have hso:=hHas.sort;unfold ie;cases down with
 | false=>exact (qza hso).symm
 | true=>exact (qv0 hso).symm
 rw[zE.1 hb];exact hcw;have hq:=zB hq;have hLn:L=[]:=by rcases hL with h|⟨hk,hTr⟩;exact h.2;rcases hTr with ⟨_,h,_⟩|⟨hh,n,p,hp,e,hHas⟩;exact h;exact absurd ⟨oJ,by rw[e];exact hp⟩ hq
 exact⟨dH,[],[],hC8,h0 hLn,f07.trans f8⟩;rintro _ w8 ⟨st8,SB8,zs8,hC8,hL8,f8⟩;exact kk cb w8 st8 SB8 zs8 hC8 hL8 f8
end
end
section
abbrev SS:=Sl×Sl
def mI (x:SS):List Ie:=[x.1.v,x.2.v]
def qqg:∀z,(mI z).length=2:=λ_=>rfl
def qwY(z:SS):∀u∈mI z,u.oneCell'=true:=λu h=>by unfold mI at h;simp only[zG,xW,or_false] at h;rcases h with rfl|rfl<;>rfl
def qAV:∃i,Tryz.prog.info? Bg=some i/\i.zero=some (.agg dc)/\i.size=2/\i.bytes=48:=sV oK
def qA7{zs:List SS}{SB:Ik}{x:SS}(h:eU mI 2 w s zs SB)(R:zs.length<=1000000)(G:∀E B' w',eU mI 2 w' E (zs++[x]) B'->Fr SB w w'->(∀b∈B',b∈SB\/w.heap.size<=b)->K E w'): Pt.new (.cells (xb x.1 x.2) Bg) w λr w1=>Pt.run dh ((Builtin.append_ #[97,97] 97 #[s.v,.slice (pW r) 1 1]).run Tryz.prog w1) K:=by obtain⟨j,I,J,u,C⟩:=qAV;exact eU.push (e:=Bg) (x:=x) h qqg (qwY _) oK I J u rfl rfl (by rw[C];omega) oJ G
def pq (w:Ic) (h:Ik) (ps:List (SS×(Key×Key))):Prop:=∀p∈ps,∃u C,fR w p.1.1 p.2.1 u/\fR w p.1.2 p.2.2 C/\(∀b∈u,b∈h)/\∀b∈C,b∈h
def pq.q8{w w':Ic}{S E C:Ik}{ps:List (SS×(Key×Key))}(h:pq w E ps)(f:Fr S w w')(G:∀b∈E,b∉S)(I:∀b∈E,b∈C):pq w' C ps:=λp U=>by obtain⟨V,B2,h1,h2,J,R⟩:=h p U;exact⟨V,B2,h1.q8 f λb u=>G b (J b u),h2.q8 f λb u=>G b (R b u),λb u=>I b (J b u),λb u=>I b (R b u)⟩
section
variable {dbk pb:Nat} {FD F:Ik} {D:dJ} {M:dV} {k v:Nat} {frm to:Key} {down:Bool} {w0 w wA:Ic} {cb:Nat} {Y SB:Ik} {st:Sl} {zs:List qr}
def qwl{t:Int}{sf ai:Sl}(hT:TW dbk pb FD D 900000 w [] F M)(hs:rz t=((k:Int),(v:Int)))(hL:(k=0/\L=[])\/(k≠0/\fQ D M k v t L P))(aw:L.length<=90000)(hf:en S w sf frm)(ht:en S w ai to)(ax:frm.length<=1000000)(ay:to.length<=1000000)(az:eI frm)(aA:eI to)(kk:∀s w' B C ps,eU mI 2 w' s (ps.map (·.1)) B->pq w' C ps->(∀b∈C,b∉B)->ps.map (·.2)=(ie down frm to L).take most.toNat->Fr [] w w'->(∀b∈B,w.heap.size<=b)->(∀b∈C,w.heap.size<=b)->K s w'): cW 34 [dG pb,.i t,sf.v,ai.v,.bool down,.i most] dh w K:=by
 refine qpb<|qyo hT hs hL aw hf ht ax ay az aA λcb w1 st SB zs aj aB f1=>?_;have a6:(ie down frm to L).length<=90000:=by have h1:(lA frm to L).length<=L.length:=length_filter_le _ _;unfold ie;split;rw[length_reverse];omega;omega
 have a7:∀b∈cb::SB,w.heap.size<=b:=aj.new;refine gP (λs w'=>∃B C ps,eU mI 2 w' s (ps.map (·.1)) B/\pq w' C ps/\(∀b∈C,b∉B)/\ps.map (·.2)=(ie down frm to L).take most.toNat/\Fr [] w w'/\(∀b∈B,w.heap.size<=b)/\(∀b∈C,w.heap.size<=b)) ?_ ?_
 ·refine Cn (λ(i:Nat) s w'=>∃B C ps st SB zs,i<=(ie down frm to L).length/\eU mI 2 w' s (ps.map (·.1)) B/\pq w' C ps/\(∀b∈C,b∉B)/\ps.map (·.2)=(ie down frm to L).take i/\(most.toNat<i->i=0)/\Fr [] w w'/\(∀b∈B,w.heap.size<=b)/\(∀b∈C,w.heap.size<=b)/\gb dbk pb FD D F M k v frm to down w cb (B++C) w' st SB zs/\Left D M k v frm to down 1 (zs.map (·.2)) ((ie down frm to L).drop i)) (λi=>(ie down frm to L).length+1-i) 0 ⟨[],[],[],st,SB,zs,yW _,.nil _ _ _,(λp hp=>nomatch hp),(λb u=>nomatch u),rfl,λ_=>rfl,f1,(λb u=>nomatch u),(λb u=>nomatch u),aj,by rw[xE];exact aB⟩ ?_;rintro i s w2 ⟨B,C,ps,a8,ad,a9,hi,u,hR,hd,R,aE,f2,n2,n3,G,aG⟩ X hX;have ba:s.len=i:=by
   rw[u.len,zK];have:=H9 List.length R;rw[zK,yK] at this;omega
  apply dX<;>intro hc;rotate_left;have hc:=zB hc;refine⟨B,C,ps,u,hR,hd,?_,f2,n2,n3⟩;rw[R];by_cases h0:most.toNat<i;have:=aE h0;omega;have:most.toNat=i:=oJ;rw[this];have hc:=zC hc;have bb:i<most.toNat:=oJ;have bc:=G.lt;refine qwm G aG (λaH w3 ae f3=>?_) λx L' U ks vs B1 B2 w3 aI aJ aK hk hv ae aL f3 n4 n5 n6 aW=>?_;refine oB (oE [] w3) λr w4 e4 f4 h=>oD h 0 rfl (xb dH dH) λw5 h f5=>HK rfl ?_;have af:Fr (cb::ad) w2 w5:=f3.trans (h.fr.mono λ_ h=>nomatch h);have E:∀b∈B++C,b∉cb::ad:=λb u J=>by rcases zG.1 J with rfl|J;exact G.AH u;exact G.wT b J u
  refine⟨B,C,ps,u.q8 af λb u=>E b (by simp[u]),hR.q8 af (λb u=>E b (by simp[u])) λb u=>u,hd,?_,f2.j8 af λb u=>.inr (G.new b u),n2,n3⟩;rw[R];have I:(ie down frm to L).length<=i:=by
   have:=H9 List.length aH;rw[yB,xJ] at this;omega
  rw[zS I,zS oJ];have I:i<(ie down frm to L).length:=by
   have:=H9 List.length U;rw[yB,yH] at this;omega
  have hx:(ie down frm to L).take (i+1)=(ie down frm to L).take i++[x]:=(by rw[yF I];rw[zX I] at U;rw[(vB U).1]);have ag:(ie down frm to L).drop (i+1)=L':=(by rw[zX I] at U;exact (vB U).2);have E:∀b∈B++C,b∉cb::ad:=λb u J=>by rcases zG.1 J with rfl|J;exact G.AH u;exact G.wT b J u
  have aN:eU mI 2 w3 s (ps.map (·.1)) B:=u.q8 f3 λb u=>E b (by simp[u]);have aO:pq w3 (B1++(B2++C)) (ps++[((ks,vs),x)]):=λp hp=>by rcases zD.1 hp with hp|hp;exact hR.q8 f3 (λb u=>E b (by simp[u])) (λb u=>by simp[u]) p hp;rw[zE.1 hp];exact⟨B1,B2,hk,hv,λb u=>by simp[u],λb u=>by simp[u]⟩
  have ap:∀b∈B1++(B2++C),b∉B:=λb V J=>by
   have:=u.lt b J;rcases zD.1 V with h|V;have:=n5 b h;omega;rcases zD.1 V with h|V;have:=n6 b h;omega;exact hd b V J
  refine oB (oE [] w3) λr w4 e4 f4 h=>oD h 0 rfl (xb ks vs) λw5 h f5=>HM rfl<|Ij h 0 rfl (ks,vs) ?_;have aP:=ae.q7 h.fr;refine qA7 (x:=(ks,vs)) (aN.q7 h.fr) (by rw[zK];have:=H9 List.length R;rw[zK,yK] at this;omega) λs6 B6 w6 b6 f6 n7=>?_;have aq:=ae.lt;have ab:∀b∈B1++(B2++C),b<w5.heap.size:=λb u=>yC (aq b (by simp only[zD,zG] at u⊢;rcases u with h|h|h<;>simp[h])) h.fr.size;have aR:Fr [] w w6:=by refine (f2.j8 f3 λb u=>.inr (G.new b u)).trans (h.fr) |>.j8 f6 λb u=>.inr (n2 b u)
  have hz:=(f2.j8 f3 λb u=>.inr (G.new b u)).size;refine hX (i+1) s6 w6 ⟨B6,B1++(B2++C),ps++[((ks,vs),x)],aI,aJ,aK,I,by rw[xM];exact b6,(aO.q8 h.fr (λ_ _ h=>nomatch h) λb u=>u).q8 f6 ap λb u=>u,λb u J=>?_,by rw[xM,R,hx];rfl,λh=>oJ,aR,λb u=>?_,λb u=>?_,aP.q8 (f6.mono λb u _=>by simp[u]) (λb u=>?_) λb u=>?_,by rw[ag];exact aL⟩ ?_;rcases n7 b J with h1|h1;exact ap b u h1;have:=ab b u;omega;rcases n7 b u with h1|h1;exact n2 b h1;have:=h.fr.size;omega;have ar:=f2.size;rcases zD.1 u with h|u;exact zL ar (n5 b h);rcases zD.1 u with h|u;exact zL ar (n6 b h);exact n3 b u;rcases zD.1 u with u|u;exact (n7 b u).imp (λh=>by simp[h]) id;exact .inl (by simp only[zD] at u⊢;rcases u with h|h|h<;>simp[h]);rcases zD.1 u with u|u;exact b6.lt b u;exact yC (ab b u) f6.size;show _+1-(i+1)<_+1-i;omega
 rintro s w2 ⟨B,C,ps,h1,h2,h3,h4,h5,h6,h7⟩;exact kk s w2 B C ps h1 h2 h3 h4 h5 h6 h7
end
end
section
def qBC{frm to:Key}{x:Key×Key}:BH frm to x=true↔¬fK x.1 frm/\¬fK to x.1:=by unfold BH;rw[yA,yM,yM];have h:cmpL x.1 frm>=0↔¬fK x.1 frm:=(by unfold fK;omega);have u:cmpL x.1 to<=0↔¬fK to x.1:=(by unfold fK;rw[uu x.1 to];omega);rw[h,u]
def qyz(l:Il):¬cmpL l l<0:=qS
def qBc{x y:Il}{n m:Int}(u:nf n)(C:nf m)(E:x.length=y.length):fK (x++bw 8 n) (y++bw 8 m)↔fK x y\/x=y/\n<m:=by unfold fK;rw[quk E];by_cases e:x=y;rw[iP e,qwI u C,e];exact⟨λh=>.inr ⟨rfl,h⟩,λh=>h.elim (λh=>absurd h (qyz y)) λh=>h.2⟩;rw[iN e];exact⟨.inl,λh=>h.elim id λh=>absurd h.1 e⟩
def quS{a b c d:Int}(u:nf a)(E:nf b)(C:nf c)(G:nf d):fK (kQ a b) (kQ c d)↔a<c\/a=c/\b<d:=by unfold kQ;rw[qBc E G (by rw[ll,ll]),show fK (bw 8 a) (bw 8 c)↔a<c from qwI u C];exact⟨λh=>h.imp id λh=>⟨Dt (by rw[p8];exact u) (by rw[p8];exact C) h.1,h.2⟩,λh=>h.imp id λh=>⟨by rw[h.1],h.2⟩⟩
def tr (l:List (HL iI)):Prop:=l.Pairwise λa b=>lP a b=true
def vI (d:HL iI):Key×Key:=(kQ d.1 d.2.1,iH (BM d))
def qyG{a b:HL iI}(h:jx iI a)(u:jx iI b):fK (vI a).1 (vI b).1↔lP a b=true:=by unfold lP;rw[yM];exact quS (qI h.1) (qI h.2.1) (qI u.1) (qI u.2.1)
def lw.eqs{α κ:Type}{K:nR α κ}{l:List α}{f:α->Key×Key}(h:lw K L l)(u:∀a,f a=(K.g (K.key a),K.val a))(C:l.Pairwise λa b=>fK (f a).1 (f b).1):L=l.map f:=by
 refine List.Perm.eq_of_pairwise (le:=λx y=>fK x.1 y.1) (λa b _ _ E G=>absurd G (sO E)) ?_ ?_ ?_;have:=h.1.sort;unfold fg fL dQ at this;exact pairwise_map.1 this;exact pairwise_map.2 C;rw[show f=λa=>(K.g (K.key a),K.val a) from funext u];exact h.1.perm
def mc (l:List (HL iI)) (J0 most:Int):List (HL iI):=(l.filter λd=>decide (d.1<=J0)).take most.toNat
def qwV{J0:Int}(h:lw sM L l)(G:tr l)(I:nf J0):(ie false [] (kQ J0 18446744073709551615) L).take most.toNat=(mc l J0 most).map vI:=by
 have e:L=l.map vI:=h.eqs (λ_=>rfl) (List.Pairwise.imp_of_mem (λ{a b} J R u=>(qyG (h.2 a J) (h.2 b R)).2 u) G);unfold ie lA mc;rw[iN oM,e,filter_map,xO];congr 2;refine filter_congr λd U=>?_;have E:=h.2 d U;have u:=qI E.1;have C:=qI E.2.1;rw[HR,Function.comp,qBC,yM];have V:¬fK (vI d).1 []:=by
  unfold vI kQ fK;have:bw 8 d.1≠[]:=λe=>by have:=H9 List.length e;rw[ll] at this;cases this
  cases hx:bw 8 d.1 with
  | nil=>exact absurd hx this
  | cons x r=>exact (by decide:¬(1:Int)<0)
 have h3:fK (kQ J0 18446744073709551615) (vI d).1↔J0<d.1\/J0=d.1/\18446744073709551615<d.2.1:=quS I ⟨oM,oM⟩ u C;rw[h3];have key:∀a e:Int,nf e->(¬(J0<a\/J0=a/\18446744073709551615<e)↔a<=J0):=λa e h=>by omega
 exact⟨λh=>(key _ _ C).1 h.2,λh=>⟨V,(key _ _ C).2 h⟩⟩
abbrev BY:If:=41
abbrev jO:HL iI->List Ie:=HL.mk iI
def BJ(d:HL iI):(jO d).length=4:=rfl
def qAQ:∃i,Tryz.prog.info? BY=some i/\i.zero=some (.agg c6)/\i.size=4/\i.bytes=32:=sV oK
def qwW(d:HL iI):∀u∈jO d,u.oneCell'=true:=λu h=>by obtain⟨a,b,c,e⟩:=d;rcases zG.1 h with rfl|h;rfl;rcases zG.1 h with rfl|h;rfl;rcases zG.1 h with rfl|h;rfl;rw[zE.1 h];rfl
def Bw{x:HL iI}(h:eU jO 4 w s l B)(R:l.length<=1000000)(G:∀E B' w',eU jO 4 w' E (l++[x]) B'->Fr B w w'->(∀b∈B',b∈B\/w.heap.size<=b)->K E w'): Pt.new (.cells (HL.mk iI x).toArray BY) w λr w1=>Pt.run dh ((Builtin.append_ #[29,29] 29 #[s.v,.slice (pW r) 1 1]).run Tryz.prog w1) K:=by obtain⟨j,I,J,u,C⟩:=qAQ;exact eU.push (e:=BY) (x:=x) h BJ (qwW x) oK I J u rfl rfl (by rw[C];omega) oJ G
section
variable {w w' w1:Ic} {Y F F':Ik} {sb pb c:Nat} {b b':Bk}
def qt7{J0:Int}(h:SB w Y sb F c b)(hn:IntKind.u64.has J0)(hd:tr b.due)(hl:b.size<=90000)(kk:∀s B w',eU jO 4 w' s (mc b.due J0 most) B->Fr [] w w'->(∀x∈B,w.heap.size<=x)->(∀d∈b.due,jx iI d)->K s w'): cW 10 [dG sb,.w J0,.i most] dh w K:=by
 refine qk9 ?_;obtain⟨pb,h⟩:=h;have g:=(Fr.refl [] w).drew;refine h.qO g (qt4 λs1 w1 h1 f1=>ik (h.held (g.trans f1)) ?_);obtain⟨dbk,FD,Fp,D,M,Fo,rfl,hS,ay,az,hb,hc,hj⟩:=h;have C:=hb.due;have aB:=C.len;have ad:=(hS.q7 g).q7 f1;have hz:b.due.length<=b.size:=(by unfold Bk.size;omega);refine qwl (S:=[]) (k:=16) (v:=16) (frm:=[]) (L:=(Fo 3).1) (P:=(Fo 3).2) ((ad.tw.y0 (Y':=[]) λ_ h=>nomatch h).up (by omega)) rfl (.inr ⟨oM,hS.st.J0.J2 3 oM⟩) oJ (.nil _ _ _ _) h1.rd (yW _) (by rw[wZ];decide) (λ_ h=>nomatch h) (Fu _ _) λs2 w2 B KB ps hB hR _ E f2 nB _=>?_;rw[qwV C hd (qI hn)] at E;have ae:ps.length=(mc b.due J0 most).length:=(by have:=H9 List.length E;simpa using this);have aE:(mc b.due J0 most).length<=b.due.length:=(by unfold mc;rw[yK];exact zL (Nat.min_le_right _ _) (length_filter_le _ _));have aF:s2.len=ps.length:=(by rw[hB.len,zK]);have af:ee mI 2 [] w2 s2 (ps.map (·.1)):=hB.jz qqg λ_ _ h=>nomatch h;refine iX (λq w'=>∃i:Nat,∃B',q.2=i/\i<=ps.length/\eU jO 4 w' q.1 ((mc b.due J0 most).take i) B'/\Fr [] w2 w'/\∀x∈B',w2.heap.size<=x) (λq _=>ps.length-q.2.toNat) ⟨0,[],rfl,yW _,eU.nil _ _ _,.refl _ _,λ_ h=>nomatch h⟩ ?_;rintro⟨s3,q⟩ w3 ⟨i,B3,hq,hi,b3,J,n3⟩ X hX;dsimp only at hq b3⊢;subst hq;apply cD<;>intro G;have u:i<ps.length:=oJ;have I:i<(mc b.due J0 most).length:=oJ;have R:ps[i].2=vI (mc b.due J0 most)[i]:=by
  have:=H9 (·[i]?) E;simp only[zQ,zA u,zA I,Option.map_some] at this;exact yN this
 generalize U:(mc b.due J0 most)[i]=d at R;have hm:d∈b.due:=(by rw[<- U];exact (mem_filter.1 (yU (zW I))).1);have ok:=C.2 d hm;obtain⟨B1,B2,k1,k2,_,_⟩:=hR ps[i] (zW u);rw[R] at k1 k2;have ah:en [] w2 ps[i].1.1 (kQ d.1 d.2.1):=k1.jz lc λ_ _ h=>nomatch h;have ai:en [] w2 ps[i].1.2 (iH (BM d)):=k2.jz lc λ_ _ h=>nomatch h;refine gP (λq w'=>∃B',eU jO 4 w' q ((mc b.due J0 most).take (i+1)) B'/\Fr [] w2 w'/\∀x∈B',w2.heap.size<=x) ?_ λs4 w4 ⟨B4,b4,f4,n4⟩=>hX _ _ ⟨i+1,B4,by dsimp only;rw[gi _ oJ];rfl,u,b4,f4,n4⟩ (by dsimp only;rw[gi _ oJ];omega);refine ee.rK (x:=ps[i].1) (y:=ps[i].1) (af.q7 J) i rfl (by rw[zQ,zA u];rfl) rfl rfl<|oB (oE [] w3) λr4 w4 _ f4 o=>o.st' 0 rfl _ (k7 rfl) rfl (zM _) λw5 o _=>oA o 0 rfl ps[i].1.1 rfl (oA o 0 rfl ps[i].1.2 rfl ?_);have f5:=J.trans o.fr;refine qu5 (x:=BM d) (ah.q7 f5) (ai.q7 f5) (qI ok.1) (qI ok.2.1) ⟨qI ok.2.2.1,qI ok.2.2.2⟩ λw6 f6=>oB (o.q7 f6) λr7 w7 _ f7 o=>o.st' 0 rfl _ (k7 rfl) rfl (zM _) λw8 o _=>HK rfl (Ij o 0 rfl d ?_);refine Bw (b3.q7 o.fr) (by rw[yK];omega) λs9 B9 w9 b9 f9 n9=>⟨B9,?_,(J.trans o.fr).j8 f9 λx V=>.inr (n3 x V),λx V=>(n9 x V).elim (n3 x) λh=>zL (J.trans o.fr).size h⟩;rw[yF I,U];exact b9;have u:i=ps.length:=oJ;subst u;rw[ae,xY] at b3;have f:=(g.trans f1).trans f2;exact kk s3 B3 w3 b3 (f.trans J) (λx V=>zL f.size (n3 x V)) C.2
end
end
section
def xp{x:Int}(h:nf x):IntKind.u64.has x:=show (0:Int)<=x/\x<=18446744073709551615 from⟨h.1,oJ⟩
def qux{x:Int}(h:0<=x/\x<65536):IntKind.u16.has x:=show (0:Int)<=x/\x<=65535 from⟨h.1,oJ⟩
def sq:IntKind.u64.has 0:=xp ⟨oM,oM⟩
def qyK:jx iJ qM:=⟨sq,sq,sq,sq,sq,sq,sq,sq,sq,sq,sq,show (0:Int)<=0/\(0:Int)<=4294967295 from⟨oM,oM⟩,qux ⟨oM,oM⟩,qux ⟨oM,oM⟩,sq⟩
section
variable {w w' w1:Ic} {Y F F':Ik} {sb pb c:Nat} {b b':Bk}
end
end
section
section
variable {w w' w1:Ic} {Y F F':Ik} {sb pb c:Nat} {b b':Bk}
def SB.flt(h:SB w Y sb F c b):∀x∈F,x<w.heap.size:=by obtain⟨pb,dbk,FD,I,D,M,Fo,rfl,u,C,E,J,R,U⟩:=h;exact λx G=>(zD.1 G).elim (λh=>u.tw.x8.nH x (zH _ h)) λh=>u.tw.x8.lt x h
def qyH{J0:Int}:(mc l J0 most).length<=l.length:=by unfold mc;rw[yK];exact zL (Nat.min_le_right _ _) (length_filter_le _ _)
end
end
section
def AE{a b:je}{x y:Operand}{K:Bool->Prop}(k:K (decide (a=b))): eW [gU.one Cell.bool] (λw'=>(do eqGuard .eql BW x y (de a.1 a.2) (de b.1 b.2);binOp .eql BW (de a.1 a.2) (de b.1 b.2):Sem Ie).run Tryz.prog w') w K:=by have e:ug Tryz.prog 2 BW (de a.1 a.2) (de b.1 b.2)=some (bif a.1==b.1 then (bif a.2==b.2 then true else false) else false):=oK;have h:(bif a.1==b.1 then (bif a.2==b.2 then true else false) else false)=decide (a=b):=(by obtain⟨u,C⟩:=a;obtain⟨E,G⟩:=b;dsimp only;by_cases h0:u=E;by_cases h1:C=G;simp[h0,h1];simp[h0,h1];simp[h0]);rw[h] at e;exact Hi 2 oM _ e oK k
def ee.jm{α:Type}{enc:α->List Ie}{l:List α}{cl:List Cell}(h:ee enc k S w s l)(n:Nat){x:α}{y:HL cl}{K:HL cl->Prop}(hi:i=n)(u:l[n]?=some x)(C:cl.length<=k)(E:(enc x).take cl.length=HL.mk cl y)(G:K y):idx s i k λa=>dL cl a w K:=by subst hi;obtain⟨U,b,o,I,_,V,T,fr,J,R⟩:=h.at n u;refine qs I ⟨oJ,oJ⟩ ?_;rw[zJ];refine DH J y ?_ G;rw[<- E,<- R,take_take,xQ C]
def ee.At{α:Type}{enc:α->List Ie}{l:List α}{c:Cell}(h:ee enc k S w s l)(n j:Nat){x:α}{y:c.El}{K:c.El->Prop}(hi:i=n)(C:l[n]?=some x)(E:j<k)(u:(enc x)[j]?=some (c.mk y))(G:K y):idx s i k λa=>ld c ⟨a.block,a.off+j,none⟩ w K:=by subst hi;obtain⟨U,b,o,I,_,V,T,fr,J,R⟩:=h.at n C;refine qs I ⟨oJ,oJ⟩ ?_;rw[zJ];refine io J y ?_ G;rw[<- R,xA,iP E,yZ] at u;rw[<- xK];exact u
def pi (x:je×Int):List Ie:=[.w x.1.1,.w x.1.2,.b x.2]
def oj (m:Mv):List Ie:=[.w m.1.1,.w m.1.2,.w m.2.1,.w m.2.2.1,.w m.2.2.2]
def mG (x:Ln):List Ie:=[.w x.1.1,.w x.1.2]++HL.mk mt x.2
def Be (x:je×Int):List Ie:=[.w x.1.1,.w x.1.2,.w x.2]
abbrev qH:HL iJ->List Ie:=HL.mk iJ
abbrev oz:=HL gg
structure RB (S:Ik) (w:Ic) (r:oz) (b:Bk):Prop where
 acc:ee qH 15 S w r.1 b.acc
 jB:ee pg 18 S w r.2.1 b.jB
 jT:ee pi 3 S w r.2.2.1 b.jT
 due:ee jO 4 S w r.2.2.2.1 b.due
 k6:ee oj 5 S w r.2.2.2.2.1 b.k6
 lg:ee oj 5 S w r.2.2.2.2.2.1 b.lg
 jn:ee mG 12 S w r.2.2.2.2.2.2.1 b.jn
 told:r.2.2.2.2.2.2.2.2.1=b.last.isSome/\r.2.2.2.2.2.2.2.1=b.last.getD 0
 gone:∃ g:List (je×Int),g.length<=b.gn/\ee Be 3 S w r.2.2.2.2.2.2.2.2.2 g
section
variable {S S':Ik} {w w':Ic} {r:oz} {b:Bk}
def RB.q8(h:RB S w r b)(f:Fr S w w')(u:∀x∈S',x∈S\/w.heap.size<=x):RB S' w' r b:=⟨h.acc.q8 f u,h.jB.q8 f u,h.jT.q8 f u,h.due.q8 f u,h.k6.q8 f u,h.lg.q8 f u,h.jn.q8 f u,h.told,h.gone.elim λg q=>⟨g,q.1,q.2.q8 f u⟩⟩
def RB.q7(h:RB S w r b)(f:Fr [] w w'):RB S w' r b:=h.q8 (f.mono λ_ h _=>nomatch h) λ_ h=>.inl h
def BL{α:Type}{p:α->Bool}{l:List α}{i:Nat}{x:α}(G:l[i]?=some x)(C:(l.take i).find? p=none):(p x=true->l.find? p=some x)/\(p x=false->(l.take (i+1)).find? p=none):=by obtain⟨E,u⟩:=zP.1 G;constructor;intro h;rw[show l.find? p=(l.take i++l.drop i).find? p by rw[xD],List.find?_append,C,zX E,u,List.find?_cons,h];rfl;intro h;rw[yF E,u,List.find?_append,C,List.find?_cons,h];rfl
end
end
section
section
variable {α:Type} {enc:α->List Ie} {k:Nat} {w:Ic} {s:Sl} {l:List α} {B S:Ik}
def FI{x:α}{K:WP}(h:eU enc k w s l B)(C:∀x,(enc x).length=k)(I:∀x,∀u∈enc x,u.oneCell'=true)(hi:i=n)(U:n<l.length)(kk:∀w',eU enc k w' s (l.set n x) B->Fr B w w'->K w'):idx s i k λa=>Pt.st a (enc x) w K:=by
 subst hi;have hf:=qx C;rcases h with ⟨_,rfl,_⟩|⟨b,o,G,T,rfl,rfl,ha,hb,h5,h6,h7,h8⟩;cases U;refine qs ha ⟨oJ,oJ⟩ ?_;rw[zJ,xR];rw[xE] at h8;have h9:l.length*k<=s.cap*k:=HZ k oJ;have ak:l.length*k<=G.size:=oJ;have E:l=l.take n++l[n]::l.drop (n+1):=(by rw[<- zX U,xD]);have V:G=((l.take n).flatMap enc++enc l[n]++((l.drop (n+1)).flatMap enc++G.toList.drop (l.length*k))).toArray:=by
  apply Array.ext';have:l.flatMap enc=(l.take n).flatMap enc++enc l[n]++(l.drop (n+1)).flatMap enc:=by
   conv=>lhs;rw[E]
   rw[yP,yG,zV]
  rw[<- zV,<- this,<- h8,xD]
 have hA:((l.take n).flatMap enc).length=n*k:=(by rw[hf,yK,xQ oJ]);have J:dS G (n*k) (enc x)=((l.take n).flatMap enc++enc x++((l.drop (n+1)).flatMap enc++G.toList.drop (l.length*k))).toArray:=by
  have:=se (A:=(l.take n).flatMap enc) (X:=enc l[n]) (Y:=enc x) (Z:=(l.drop (n+1)).flatMap enc++G.toList.drop (l.length*k)) (by rw[C,C]);rw[hA,<- V] at this;exact this
 have aa:(n+1)*k<=l.length*k:=HZ k U;rw[Nat.succ_mul] at aa;refine qY hb _ J (all_eq_true.2 (I x)) (by rw[C];omega) λw' ab f=>kk w' (.inr ⟨b,0,_,T,rfl,rfl,ha,ab,by rw[xF];exact h5,h6,?_,?_⟩) f;have:=H9 Array.size J;rw[mY] at this;rw[<- this];exact h7;rw[xE,xF];have e:(l.set n x).flatMap enc=(l.take n).flatMap enc++enc x++(l.drop (n+1)).flatMap enc:=by rw[set_eq_take_append_cons_drop,iP U,yP,yG,zV]
 have R:((l.set n x).flatMap enc).length=l.length*k:=(by rw[hf,xF]);show List.take (l.length*k) (_++_++(_++_))=_;rw[<- zV,<- e,<- R];exact take_left' rfl
def AJ{t ty e:If}{i:TypeInfo}{z:Ie}{r:Nat}{T:If}(J:w.heap[r]?=some (.c #[] T))(G:ee enc k S w s l)(C:∀x,(enc x).length=k)(E:∀x,∀u∈enc x,u.oneCell'=true)(ht:Tryz.prog.underlying t=some (.slice e))(hi:Tryz.prog.info? e=some i)(hz:i.zero=some z)(R:i.size=k)(U:z.cells.size=k)(V:i.bytes<=1000)(hl:l.length<=1000000)(kk:∀I B w',eU enc k w' I l B->Fr [r] w w'->(∀b∈B,b=r\/w.heap.size<=b)->K I w'): Pt.run dh ((Builtin.append_ #[t,t] ty #[.slice (pW r) 0 0,s.v]).run Tryz.prog w) K:=by
 refine eU.j1 (s:=⟨pW r,0,0⟩) (l:=[]) (ys:=l) (B:=[r]) (eU.none J) C ht hi hz R U (ui (e':=e) G C E ht) G.1 ?_ (by simp;have:=G.1;omega) λI B' w' b' f' n' _=>kk I B' w' (oP b') f' λb J=>(n' b J).imp (λh=>zE.1 h) id;have:=G.1;rw[xJ,xR,this];calc l.length*i.bytes<=1000000*1000:=Nat.mul_le_mul hl V
  _<=_:=by decide
end
def Aw(x:HL iJ):(qH x).length=15:=rfl
def EM(x:HL iJ):∀u∈qH x,u.oneCell'=true:=all_eq_true.1 rfl
def qAP:∃i,Tryz.prog.info? 74=some i/\i.zero=some (HJ iJ qM)/\i.size=15/\i.bytes=104:=sV oK
section
variable {S:Ik} {w w':Ic} {r:oz} {b:Bk}
def wY{α:Type}{enc:α->List Ie}{w w0:Ic}{l:List α}{S:Ik}(h:eU enc k w s l B)(u:∀x,(enc x).length=k)(C:∀x∈S,x<w0.heap.size)(E:∀x∈B,w0.heap.size<=x):ee enc k S w s l:=h.jz u λb G I=>by have:=C b I;have:=E b G;omega
def BU{α κ:Type}[DecidableEq κ]{kf:α->κ}{a x:α}{l:List α}(C:l[n]?=some x)(u:(l.take n).find? (λy=>decide (kf y=kf a))=none)(h:kf x=kf a):gO kf a l=l.set n a:=by obtain⟨E,rfl⟩:=zP.1 C;refine qsT E h λj G e=>?_;rw[List.find?_eq_none] at u;refine u (l[j]' oJ) ?_ (oP e);exact mem_take_iff_getElem.2 ⟨j,oJ,rfl⟩
def AQ{α κ:Type}[DecidableEq κ]{kf:α->κ}{a:α}{l:List α}(h:l.find? (λy=>decide (kf y=kf a))=none):gO kf a l=l++[a]:=FQ λx u e=>by rw[List.find?_eq_none] at h;exact h x u (oP e)
def qvc{a:HL iJ}{K:oz->WP}(h:RB S w r b)(hl:b.size<=100000)(hS:∀x∈S,x<w.heap.size)(kk:∀r' w',RB S w' r' (b.kO a)->Fr [] w w'->K r' w'): cW 64 [HJ gg r,HJ iJ a] [.agg gg] w K:=by
 refine qc5 ?_;have aD:b.acc.length<=100000:=(by unfold Bk.size at hl;omega);obtain⟨i,hi,hz,aa,ab⟩:=qAP;refine oB (oE [] w) λr1 w1 _ f1 o=>oB o λr3 w2 _ f2 o=>oB o λr5 J _ f3 o=>oB (oE [] J) λr7 w4 e4 f4 o2=>?_;have o4:=o.q7 f4;refine Ii o4 2 rfl r.1 (AJ (e:=74) (o2.at (i:=0) rfl) (h.q7 o4.fr).acc Aw EM oK hi hz aa rfl (by rw[ab];decide) oJ λs5 B5 w5 b5 f5 n5=>?_);have E:∀x∈B5,J.heap.size<=x:=λx u=>(n5 x u).elim (λe=>oJ) λh=>zL f4.size h;have R:Fr [] J w5:=f4.j8 f5 λx u=>.inr (by rw[zE.1 u];omega);have ac:∀(s:Sl) (l:List (HL iJ)) (B:Ik) V,eU qH 15 V s l B->(∀x∈B,J.heap.size<=x)->Fr [] J V->l=gO kr a b.acc->Pt.st (dg r1) [s.v] V λw7=>dL gg (dg r1) w7 λt=>Pt.st (dg r5) (HL.mk gg t) w7 λw8=>dL gg (dg r5) w8 λt=>K t w8:=λs l B V hb hB G e=>by
  refine (o.q7 G).st' 2 rfl (HL.mk gg (s,r.2)).toArray rfl rfl (zO rfl) λw7 o7 f7=>Ij o7 2 rfl (s,r.2) (o7.st' 0 rfl _ (k7 rfl) rfl (zM _) λw8 o8 f8=>Ij o8 0 rfl (s,r.2) ?_);have I:=h.q7 o8.fr;have l1:r1<J.heap.size:=eX (o.at (i:=2) rfl);have l5:r5<J.heap.size:=eX (o.at (i:=0) rfl);have an:=(hb.q8 f7 λx u h=>by have:=hB x u;have:=zE.1 h;omega).q8 f8 λx u h=>by have:=hB x u;have:=zE.1 h;omega
  have ao:ee qH 15 S w8 s (gO kr a b.acc):=(by rw[<- e];exact wY an Aw hS λx u=>zL o.fr.size (hB x u));exact kk (s,r.2) w8 ⟨ao,I.jB,I.jT,I.due,I.k6,I.lg,I.jn,I.told,I.gone⟩ o8.fr
 have aK:s5.len=b.acc.length:=b5.len;refine iX (λq w'=>∃n:Nat,q=n/\n<=b.acc.length/\Fr [] w5 w'/\((b.acc.take n).find? λx=>decide (kr x=kr a))=none) (λq _=>b.acc.length-q.toNat) ⟨0,rfl,yW _,.refl _ _,rfl⟩ ?_;rintro q V ⟨n,rfl,hn,G,hf⟩ X hX;apply cD<;>intro hc;have C:n<b.acc.length:=oJ;have u:=zA C;have b6:=(b5.q7 G).q7 (Fr.refl [] V).drew;have o6:=o.q7 ((R.trans G).drew);refine ee.jm (cl:=u2) (S:=[]) (b6.jz Aw λ_ _ h=>nomatch h) n rfl u oM rfl (Ij o6 1 rfl (kr a) (AE (a:=kr b.acc[n]) ?_));have st:=BL (p:=λx=>decide (kr x=kr a)) u hf;apply dX<;>intro hb;refine Ij o6 1 rfl a (FI b6 Aw EM rfl C λw7 b7 f7=>ac _ _ _ _ b7 E ((R.trans G).drew.j8 f7 λx u=>.inr (E x u)) (BU u hf (zC hb)).symm);rw[gi _ oJ];exact hX _ _ ⟨n+1,rfl,C,G.drew,st.2 hb⟩ oJ;have C:n=b.acc.length:=oJ;subst C;rw[xY] at hf;have U:=R.trans G;refine Ij (o.q7 U) 1 rfl a (eU.push (e:=74) (x:=a) (b5.q7 G) Aw (EM a) oK hi hz aa rfl rfl (by rw[ab];omega) oJ λs7 B7 w7 b7 f7 n7=>ac _ _ _ _ b7 (λx u=>(n7 x u).elim (E x) (zL U.size)) (U.j8 f7 λx u=>.inr (E x u)) (AQ hf).symm)
end
end
section
abbrev Hh:If:=49
abbrev mvs:List Cell:=[.w,.w,.w,.w,.w]
def Cc(x:Mv):(oj x).length=5:=rfl
def EL(x:Mv):∀u∈oj x,u.oneCell'=true:=all_eq_true.1 rfl
def qAU:∃i,Tryz.prog.info? Hh=some i/\i.zero=some (.agg #[.w 0,.w 0,.w 0,.w 0,.w 0])/\i.size=5/\i.bytes=40:=sV oK
section
variable {S:Ik} {w w':Ic} {s:Sl} {l:List Mv}
def qrO{m:Mv}(h:ee oj 5 S w s l)(hl:l.length<=100000)(hS:∀x∈S,x<w.heap.size)(kk:∀s' w',ee oj 5 S w' s' (gO mX m l)->Fr [] w w'->K s' w'): cW 109 [s.v,.agg #[.w m.1.1,.w m.1.2,.w m.2.1,.w m.2.2.1,.w m.2.2.2]] dh w K:=by
 refine qhO ?_;obtain⟨i,hi,hz,V,aa⟩:=qAU;refine oB (oE [] w) λr1 w3 _ f3 o=>oB (oE [] w3) λr7 w4 e4 f4 o2=>?_;have o4:=o.q7 f4;refine AJ (e:=Hh) (o2.at (i:=0) rfl) (h.q7 o4.fr) Cc EL oK hi hz V rfl (by rw[aa];decide) oJ λs5 B5 w5 b5 f5 n5=>?_;have G:∀x∈B5,w3.heap.size<=x:=λx u=>(n5 x u).elim (λe=>oJ) λh=>zL f4.size h;have R:Fr [] w3 w5:=f4.j8 f5 λx u=>.inr (by rw[zE.1 u];omega);have ac:∀(s:Sl) (l':List Mv) (B:Ik) I,eU oj 5 I s l' B->(∀x∈B,w3.heap.size<=x)->Fr [] w3 I->l'=gO mX m l->K s I:=λs l' B I C hB J e=>by refine kk s I ?_ (f3.trans J);rw[<- e];exact wY C Cc hS λx u=>zL f3.size (hB x u)
 have aE:s5.len=l.length:=b5.len;refine iX (λq w'=>∃n:Nat,q=n/\n<=l.length/\Fr [] w5 w'/\((l.take n).find? λx=>decide (mX x=mX m))=none) (λq _=>l.length-q.toNat) ⟨0,rfl,yW _,.refl _ _,rfl⟩ ?_;rintro q I ⟨n,rfl,hn,J,hf⟩ X hX;apply cD<;>intro hc;have E:n<l.length:=oJ;have u:=zA E;have b6:=(b5.q7 J).q7 (Fr.refl [] I).drew;have o6:=o.q7 ((R.trans J).drew);have r6:ee oj 5 [] I.drew s5 l:=b6.jz Cc λ_ _ h=>nomatch h;refine vd (decide (mX l[n]=mX m)) I.drew (λM hM=>?_) ?_;refine ee.jm (cl:=u2) r6 n rfl u oM rfl (Ij o6 0 rfl m.1 (AE (a:=l[n].1) ?_));apply dX<;>intro C;have C:=zC C;refine ee.At (c:=.w) r6 n 2 rfl u oM (y:=l[n].2.1) rfl (Ii o6 0 rfl m.2.1 ?_);rw[show (l[n].2.1==m.2.1)=decide (mX l[n]=mX m) by unfold mX;rw[C];by_cases e:l[n].2.1=m.2.1;simp[e];simp[e]];exact hM;have C:=zB C;rw[show decide (mX l[n]=mX m)=false from zU λe=>C (vA e).1] at hM;exact hM;have st:=BL (p:=λx=>decide (mX x=mX m)) u hf;apply dX<;>intro C;refine Ij o6 0 rfl (m.1.1,m.1.2,m.2.1,m.2.2.1,m.2.2.2) (FI b6 Cc EL (x:=m) rfl E λw7 b7 f7=>ac _ _ _ _ b7 G ((R.trans J).drew.j8 f7 λx u=>.inr (G x u)) (BU u hf (zC C)).symm);rw[gi _ oJ];exact hX _ _ ⟨n+1,rfl,E,J.drew,st.2 C⟩ oJ;have E:n=l.length:=oJ;subst E;rw[xY] at hf;have U:=R.trans J;refine Ij (o.q7 U) 0 rfl (m.1.1,m.1.2,m.2.1,m.2.2.1,m.2.2.2) (eU.push (e:=Hh) (x:=m) (b5.q7 J) Cc (EL m) oK hi hz V rfl rfl (by rw[aa];omega) oJ λs7 B7 w7 b7 f7 n7=>ac _ _ _ _ b7 (λx u=>(n7 x u).elim (G x) (zL U.size)) (U.j8 f7 λx u=>.inr (G x u)) (AQ hf).symm)
end
end
section
section
variable {α:Type} {enc:α->List Ie} {k:Nat} {w:Ic} {s:Sl} {l:List α} {B S:Ik}
def qui{j:Nat}{x:α}{vs:List Ie}{K:WP}(h:eU enc k w s l B)(E:∀x,(enc x).length=k)(hi:i=n)(hn:n<l.length)(I:vs.all Value.oneCell'=true)(hj:j+vs.length<=k)(hx:enc x=(enc l[n]).take j++vs++(enc l[n]).drop (j+vs.length))(kk:∀w',eU enc k w' s (l.set n x) B->Fr B w w'->K w'):idx s i k λa=>Pt.st ⟨a.block,a.off+j,none⟩ vs w K:=by
 subst hi;have hf:=qx E;rcases h with ⟨_,rfl,_⟩|⟨b,o,u,T,rfl,rfl,ha,hb,h5,h6,h7,h8⟩;cases hn;refine qs ha ⟨oJ,oJ⟩ ?_;rw[zJ,xR];rw[xE] at h8;have h9:l.length*k<=s.cap*k:=HZ k oJ;have ap:l.length*k<=u.size:=oJ;have C:l=l.take n++l[n]::l.drop (n+1):=(by rw[<- zX hn,xD]);have J:=E l[n];have he:enc l[n]=(enc l[n]).take j++((enc l[n]).drop j).take vs.length++(enc l[n]).drop (j+vs.length):=(by rw[zV,<- xC,xD,xD]);have R:u=(((l.take n).flatMap enc++(enc l[n]).take j)++((enc l[n]).drop j).take vs.length++((enc l[n]).drop (j+vs.length)++((l.drop (n+1)).flatMap enc++u.toList.drop (l.length*k)))).toArray:=by
  apply Array.ext';have:l.flatMap enc=(l.take n).flatMap enc++enc l[n]++(l.drop (n+1)).flatMap enc:=by
   conv=>lhs;rw[C]
   rw[yP,yG,zV]
  have h0:u.toList=(l.take n).flatMap enc++enc l[n]++(l.drop (n+1)).flatMap enc++u.toList.drop (l.length*k):=(by rw[<- this,<- h8,xD]);rw[h0];conv=>lhs;rw[he]
  rw[<- h0];simp only[zV]
 have hA:((l.take n).flatMap enc++(enc l[n]).take j).length=n*k+j:=(by rw[zF,hf,yK,yK,xQ oJ,J];omega);have G:dS u (n*k+j) vs=((l.take n).flatMap enc++enc x++((l.drop (n+1)).flatMap enc++u.toList.drop (l.length*k))).toArray:=by
  have:=se (A:=(l.take n).flatMap enc++(enc l[n]).take j) (X:=((enc l[n]).drop j).take vs.length) (Y:=vs) (Z:=(enc l[n]).drop (j+vs.length)++((l.drop (n+1)).flatMap enc++u.toList.drop (l.length*k))) (by rw[yK,yB,J];omega);rw[hA,<- R] at this;rw[this,hx];simp only[zV]
 have ac:(n+1)*k<=l.length*k:=HZ k hn;rw[Nat.succ_mul] at ac;have U:n*k+j+vs.length<=u.size:=(by clear R G hx he hA h8;omega);refine qY hb _ G I U λw' ad f=>kk w' (.inr ⟨b,0,_,T,rfl,rfl,ha,ad,by rw[xF];exact h5,h6,?_,?_⟩) f;have:=H9 Array.size G;rw[mY] at this;rw[<- this];exact h7;rw[xE,xF];have e:(l.set n x).flatMap enc=(l.take n).flatMap enc++enc x++(l.drop (n+1)).flatMap enc:=by rw[set_eq_take_append_cons_drop,iP hn,yP,yG,zV]
 have V:((l.set n x).flatMap enc).length=l.length*k:=(by rw[hf,xF]);show List.take (l.length*k) (_++_++(_++_))=_;rw[<- zV,<- e,<- V];exact take_left' rfl
end
abbrev wK:If:=144
def AO(x:je×Int):(pi x).length=3:=rfl
def qqh(x:je×Int):∀u∈pi x,u.oneCell'=true:=all_eq_true.1 rfl
def qAW:∃i,Tryz.prog.info? wK=some i/\i.zero=some (.agg #[.w 0,.w 0,.b 0])/\i.size=3/\i.bytes=24:=sV oK
def qvg{r:oz}{b:Bk}{i0 C x:Int}{K:oz->WP}(h:RB S w r b)(hl:b.size<=100000)(hS:∀x∈S,x<w.heap.size)(kk:∀r' w',RB S w' r' (b.lG ((i0,C),x))->Fr [] w w'->K r' w'): cW 66 [HJ gg r,de i0 C,.b x] [.agg gg] w K:=by
 refine qdF ?_;have aE:b.jT.length<=100000:=(by unfold Bk.size at hl;omega);obtain⟨i,hi,hz,ab,ac⟩:=qAW;refine oB (oE [] w) λr1 w1 _ f1 o=>oB o λr3 w2 _ f2 o=>oB o λr5 R _ f3 o=>oB (oE [] R) λr7 w4 e4 f4 o2=>?_;have o4:=o.q7 f4;refine Ii o4 2 rfl r.2.2.1 (AJ (e:=wK) (o2.at (i:=0) rfl) (h.q7 o4.fr).jT AO qqh oK hi hz ab rfl (by rw[ac];decide) oJ λs5 B5 w5 b5 f5 n5=>?_);have G:∀x∈B5,R.heap.size<=x:=λx u=>(n5 x u).elim (λe=>oJ) λh=>zL f4.size h;have U:Fr [] R w5:=f4.j8 f5 λx u=>.inr (by rw[zE.1 u];omega);have ad:∀(s:Sl) (l:List (je×Int)) (B:Ik) w6,eU pi 3 w6 s l B->(∀x∈B,R.heap.size<=x)->Fr [] R w6->l=gO (λy:je×Int=>y.1) ((i0,C),x) b.jT->Pt.st (dg r1 2) [s.v] w6 λw7=>dL gg (dg r1) w7 λt=>Pt.st (dg r5) (HL.mk gg t) w7 λw8=>dL gg (dg r5) w8 λt=>K t w8:=λs l B w6 hb hB I e=>by
  refine (o.q7 I).st' 2 rfl (HL.mk gg (r.1,r.2.1,s,r.2.2.2)).toArray rfl rfl (zO rfl) λw7 o7 f7=>Ij o7 2 rfl (r.1,r.2.1,s,r.2.2.2) (o7.st' 0 rfl _ (k7 rfl) rfl (zM _) λw8 o8 f8=>Ij o8 0 rfl (r.1,r.2.1,s,r.2.2.2) ?_);have J:=h.q7 o8.fr;have l1:r1<R.heap.size:=eX (o.at (i:=2) rfl);have l5:r5<R.heap.size:=eX (o.at (i:=0) rfl);have ap:=(hb.q8 f7 λx u h=>by have:=hB x u;have:=zE.1 h;omega).q8 f8 λx u h=>by have:=hB x u;have:=zE.1 h;omega
  have aq:ee pi 3 S w8 s (gO (λy:je×Int=>y.1) ((i0,C),x) b.jT):=(by rw[<- e];exact wY ap AO hS λx u=>zL o.fr.size (hB x u));exact kk (r.1,r.2.1,s,r.2.2.2) w8 ⟨J.acc,J.jB,aq,J.due,J.k6,J.lg,J.jn,J.told,J.gone⟩ o8.fr
 have aL:s5.len=b.jT.length:=b5.len;refine iX (λq w'=>∃n:Nat,q=n/\n<=b.jT.length/\Fr [] w5 w'/\((b.jT.take n).find? λy:je×Int=>decide (y.1=(((i0,C),x):je×Int).1))=none) (λq _=>b.jT.length-q.toNat) ⟨0,rfl,yW _,.refl _ _,rfl⟩ ?_;rintro q w6 ⟨n,rfl,hn,I,hf⟩ X hX;apply cD<;>intro hc;have E:n<b.jT.length:=oJ;have u:=zA E;have b6:=(b5.q7 I).q7 (Fr.refl [] w6).drew;have o6:=o.q7 ((U.trans I).drew);refine ee.jm (cl:=u2) (S:=[]) (b6.jz AO λ_ _ h=>nomatch h) n rfl u oM rfl (Ij o6 1 rfl (i0,C) (AE (a:=b.jT[n].1) ?_));have st:=BL (p:=λy:je×Int=>decide (y.1=(((i0,C),x):je×Int).1)) u hf;apply dX<;>intro hb;have ah:b.jT[n].1=(i0,C):=zC hb;refine qui (j:=2) (x:=((i0,C),x)) (vs:=[.b x]) b6 AO rfl E rfl (zM _) (by rw[show pi b.jT[n]=pi (b.jT[n].1,b.jT[n].2) from rfl,ah];rfl) λw7 b7 f7=>ad _ _ _ _ b7 G ((U.trans I).drew.j8 f7 λx u=>.inr (G x u)) (BU (kf:=λy:je×Int=>y.1) u hf ah).symm;rw[gi _ oJ];exact hX _ _ ⟨n+1,rfl,E,I.drew,st.2 hb⟩ oJ;have E:n=b.jT.length:=oJ;subst E;rw[xY] at hf;have V:=U.trans I;refine Ij (o.q7 V) 1 rfl (i0,C) (eU.push (e:=wK) (x:=(((i0,C),x):je×Int)) (b5.q7 I) AO (qqh _) oK hi hz ab rfl rfl (by rw[ac];omega) oJ λs7 B7 w7 b7 f7 n7=>ad _ _ _ _ b7 (λx u=>(n7 x u).elim (G x) (zL V.size)) (V.j8 f7 λx u=>.inr (G x u)) (AQ (kf:=λy:je×Int=>y.1) hf).symm)
end
def ee.Hp{α:Type}{enc:α->List Ie}{l:List α}{c:Cell}(h:ee enc k S w s l)(n:Nat){x:α}{y:c.El}{K:c.El->Prop}(hi:i=n)(C:l[n]?=some x)(E:0<k)(u:(enc x)[0]?=some (c.mk y))(G:K y):idx s i k λa=>ld c a w K:=by subst hi;obtain⟨U,b,o,I,_,V,T,fr,J,R⟩:=h.at n C;refine qs I ⟨oJ,oJ⟩ ?_;rw[zJ];refine io J y ?_ G;rw[<- R,xA,iP E,yZ,Nat.add_zero] at u;rw[<- xK];exact u
def qyE(u:n<l.length):gH d (l.take (n+1))=gH d (l.take n)++if kB l[n]≠kB d then [l[n]] else []:=by unfold gH;rw[yF u,xB];congr 1;by_cases h:kB l[n]=kB d;simp[h];simp[h]
def ql3{r:oz}{b:Bk}{K:oz×Bool->WP}(h:RB S w r b)(hl:b.size<=100000)(hS:∀x∈S,x<w.heap.size)(kk:∀r' w',RB S w' r' (b.jh d)->Fr [] w w'->K (r',decide ((gH d b.due).length<b.due.length)) w'): cW 69 [HJ gg r,.agg #[.w d.1,.w d.2.1,.w d.2.2.1,.w d.2.2.2]] [.agg gg,.one .bool] w K:=by
 refine qeu ?_;have aw:b.due.length<=100000:=(by unfold Bk.size at hl;omega);refine oB (oE [] w) λr1 w1 _ f1 o=>oB o λr3 w2 _ f2 o=>oB o λr5 G _ f3 o=>oB (oE [] G) λr7 w4 e4 f4 o2=>?_;have l1:r1<G.heap.size:=eX (o.at (i:=2) rfl);have l5:r5<G.heap.size:=eX (o.at (i:=0) rfl);have ae:=(h.q7 o.fr).due;refine iX (λt w'=>∃n:Nat,∃B,t.2=n/\n<=b.due.length/\eU jO 4 w' t.1 (gH d (b.due.take n)) B/\Fr [] G w'/\∀x∈B,G.heap.size<=x) (λt _=>b.due.length-t.2.toNat) ⟨0,[r7],rfl,yW _,eU.none (o2.at (i:=0) rfl),f4,λx u=>by rw[zE.1 u];omega⟩ ?_;rintro⟨s,q⟩ w5 ⟨n,B,hq,hn,U,V,R⟩ X hX;dsimp only at hq U⊢;subst hq;have o5:=o.q7 V;have aa:ee jO 4 S w5 r.2.2.2.1 b.due:=ae.q7 V;have ag:r.2.2.2.1.len=b.due.length:=aa.1;refine Ii o5 2 rfl r.2.2.2.1 (dX (λhc=>?_) λhc=>?_);have C:n<b.due.length:=(by have:=zC hc;omega);have u:=zA C;have ct:=qyE (d:=d) C;generalize b.due[n]=x at u ct;have o6:=o5.drew;have I:=aa.drew;have aD:(gH d (b.due.take n)).length<=100000:=zL (length_filter_le _ _) (by rw[yK];omega);refine gP (λs' w'=>∃B',eU jO 4 w' s' (gH d (b.due.take (n+1))) B'/\Fr [] G w'/\∀x∈B',G.heap.size<=x) ?_ λs' w' ⟨B',b',f',n'⟩=>hX _ _ ⟨n+1,B',by dsimp only;rw[gi _ oJ];rfl,C,b',f',n'⟩ (by dsimp only;rw[gi _ oJ];omega);refine vd (decide (kB x≠kB d)) w5.drew (λM hM=>?_) ?_;refine Ii o6 2 rfl r.2.2.2.1 (ee.Hp (c:=.w) I n rfl u oM (y:=x.1) rfl (Ii o6 1 rfl d.1 ?_));by_cases e:x.1=d.1;refine HM (by rw[e];simp) (Ii o6 2 rfl r.2.2.2.1 (ee.At (c:=.w) I n 1 rfl u oM (y:=x.2.1) rfl (Ii o6 1 rfl d.2.1 ?_)));rw[show (!x.2.1==d.2.1)=decide (kB x≠kB d) by unfold kB;rw[e];by_cases e2:x.2.1=d.2.1;simp[e2];simp[e2]];exact hM;rw[show decide (kB x≠kB d)=true from zZ λh=>e (vA h).1] at hM;exact HK (oP e) hM;rw[ct];have b6:=U.q7 (Fr.refl [] w5).drew;apply cD<;>intro J;rw[iP (J)];refine Ii o6 2 rfl r.2.2.2.1 (ee.rK (y:=x) I n rfl u rfl rfl (Bw b6 oJ λs7 B7 w7 b7 f7 n7=>⟨B7,b7,V.drew.j8 f7 λx u=>.inr (R x u),λx u=>(n7 x u).elim (R x) (zL V.drew.size)⟩));rw[iN (J),xG];exact⟨B,b6,V.drew,R⟩;have C:n=b.due.length:=(by have:=zB hc;omega);subst C;rw[xY] at U;refine Ii o5 2 rfl r.2.2.2.1 (o5.st' 2 rfl (HL.mk gg (r.1,r.2.1,r.2.2.1,s,r.2.2.2.2)).toArray rfl rfl (zO rfl) λw7 o7 f7=>Ij o7 2 rfl (r.1,r.2.1,r.2.2.1,s,r.2.2.2.2) (o7.st' 0 rfl _ (k7 rfl) rfl (zM _) λw8 o8 f8=>Ij o8 0 rfl (r.1,r.2.1,r.2.2.1,s,r.2.2.2.2) ?_));have E:=h.q7 o8.fr;have al:=(U.q8 f7 λx u h=>by have:=R x u;have:=zE.1 h;omega).q8 f8 λx u h=>by have:=R x u;have:=zE.1 h;omega
 have e1:s.len=(gH d b.due).length:=U.len;have e2:r.2.2.2.1.len=b.due.length:=ag;have:=kk (r.1,r.2.1,r.2.2.1,s,r.2.2.2.2) w8 ⟨E.acc,E.jB,E.jT,wY al BJ hS λx u=>zL o.fr.size (R x u),E.k6,E.lg,E.jn,E.told,E.gone⟩ o8.fr;rw[<- e1,<- e2] at this;simpa using this
def qvb{r:oz}{b:Bk}{K:oz×Bool->WP}(h:RB S w r b)(u:b.size<=100000)(C:∀x∈S,x<w.heap.size)(E:∀r' w' t,RB S w' r' (b.jh d)->Fr [] w w'->K (r',t) w'): cW 69 [HJ gg r,.agg #[.w d.1,.w d.2.1,.w d.2.2.1,.w d.2.2.2]] [.agg gg,.one .bool] w K:=
 ql3 h u C λr' w' h f=>E r' w' _ h f
end
section
open Go Go.Pt List
open Go.IntKind (wrap)
open Classical
attribute [local irreducible] ld dL gZ mP i3 fc st new idx i4 jg fB jk iO lS gB nn call dZ inv run eW iC join loop held ext jU eH mv mp mA IntKind.wrap
end
section
open Go Go.Pt List
open Go.IntKind (wrap)
open Classical
attribute [local irreducible] ld dL gZ mP i3 fc st new idx i4 jg fB jk iO lS gB nn call dZ inv run eW iC join loop held ext jU eH mv mp mA IntKind.wrap
section
variable {w:Ic}
def qwz{a b:HL iI}{K:Bool->WP}(u:∀w',Fr [] w w'->K (lP a b) w'):cW 110 [.agg #[.w a.1,.w a.2.1,.w a.2.2.1,.w a.2.2.2],.agg #[.w b.1,.w b.2.1,.w b.2.2.1,.w b.2.2.2]] dj w K:=by refine qht<|oB (oE [] w) λC w1 _ E o=>oB o λG w2 _ I o=>Ii o 1 rfl a.1 (Ii o 0 rfl b.1 ?_);have u:=u w2 o.fr;unfold lP at u;apply dX<;>intro h;rw[zZ (.inl (zC h))] at u;exact u;have h:=zB h;refine Ii o 1 rfl a.1 (Ii o 0 rfl b.1 (dX (λe=>?_) λe=>?_));have e:a.1=b.1:=eq_of_beq e;refine Ii o 1 rfl a.2.1 (Ii o 0 rfl b.2.1 ?_);rw[show decide (a.1<b.1\/a.1=b.1/\a.2.1<b.2.1)=decide (a.2.1<b.2.1) from decide_eq_decide.2 ⟨λq=>q.elim (λq=>absurd q h) λq=>q.2,λq=>.inr ⟨e,q⟩⟩] at u;exact u;have e:a.1≠b.1:=ne_of_beq_false e;rw[zU λq=>q.elim h λq=>e q.1] at u;exact u
end
def qB (d:HL iI):Bool->List (HL iI)->List (HL iI)
 | c,[]=>if c then [] else [d]
 | c,x::r=>(if c=false/\lP d x=true then [d] else [])++x::qB d (c||lP d x) r
def qqs{d:HL iI}:∀l,qB d true l=l
 | []=>rfl
 | x::r=>by rw[qB,iN (λh=>nomatch h.1),Bool.true_or,qqs r];rfl
def quy{d:HL iI}:∀l,qB d false l=jS d l
 | []=>rfl
 | x::r=>by rw[qB,jS,Bool.false_or];by_cases h:lP d x=true;rw[iP ⟨rfl,h⟩,iP h,h,qqs];rfl;rw[iN λq=>h q.2,iN h,Bool.eq_false_iff.2 h,quy r];rfl
def qvd{S:Ik}{w:Ic}{r:oz}{b:Bk}{d:HL iI}{K:oz->WP}(h:RB S w r b)(hl:b.size<=100000)(hS:∀x∈S,x<w.heap.size)(kk:∀r' w',RB S w' r' (b.i9 d)->Fr [] w w'->K r' w'): cW 68 [HJ gg r,.agg #[.w d.1,.w d.2.1,.w d.2.2.1,.w d.2.2.2]] [.agg gg] w K:=by
 refine qev ?_;have av:b.due.length<=100000:=(by unfold Bk.size at hl;omega);refine oB (oE [] w) λr1 w1 _ f1 o=>oB o λr3 w2 _ f2 o=>oB o λr5 w3 _ f3 o=>Ij o 2 rfl r (Ij o 1 rfl d ?_);have aw:=o.fr.size;have l1:r1<w3.heap.size:=eX (o.at (i:=2) rfl);have l5:r5<w3.heap.size:=eX (o.at (i:=0) rfl);have n1:w.heap.size<=r1:=(o.own _ (yE (i:=2) rfl)).elim (λh=>nomatch h) id;have n5:w.heap.size<=r5:=(o.own _ (yE (i:=0) rfl)).elim (λh=>nomatch h) id;have ax:∀x∈r1::r5::S,x<w3.heap.size:=λx u=>by rcases zG.1 u with rfl|u;exact l1;rcases zG.1 u with rfl|u;exact l5;exact yC (hS x u) o.fr.size
 have h0:RB (r1::r5::S) w r b:=h.q8 (.refl _ _) λx u=>by rcases zG.1 u with rfl|u;exact .inr n1;rcases zG.1 u with rfl|u;exact .inr n5;exact .inl u
 refine qvb (d:=d) (h0.q7 o.fr) hl ax λr' w4 _ h4 f4=>(o.q7 f4).st' 2 rfl _ (k7 rfl) rfl (zM _) λI o f5=>?_;have h5:=h4.q8 (f5.mono λx u _=>by rw[zE.1 u];exact HQ) λx u=>.inl u;have z5:w3.heap.size<=I.heap.size:=zL f4.size f5.size;have ay:(gH d b.due).length<=100000:=zL (length_filter_le _ _) av;have U:ee jO 4 (r1::r5::S) I r'.2.2.2.1 (gH d b.due):=h5.due;have ab:(b.i9 d).due=jS d (gH d b.due):=rfl;generalize gH d b.due=L at ay U ab;have aX:r'.2.2.2.1.len=L.length:=U.1;refine oB (oE [] I) λr7 w6 e6 f6 o2=>iX (λt w'=>∃n:Nat,∃B C,t.2.2=n/\n<=L.length/\eU jO 4 w' t.1 C B/\C++qB d t.2.1 (L.drop n)=jS d L/\C.length<=2*n/\Fr [] I w'/\∀x∈B,I.heap.size<=x) (λt _=>L.length-t.2.2.toNat) ⟨0,[r7],[],rfl,yW _,eU.none (o2.at (i:=0) rfl),quy L,zM _,f6,λx u=>by rw[zE.1 u];omega⟩ ?_;rintro⟨s,c,q⟩ w7 ⟨n,B,C,hq,hn,hb,V,a1,f7,nB⟩ X hX;dsimp only at hq hb V⊢;subst hq;have o7:=o.q7 f7;have az:=U.q7 f7;refine Ii o7 2 rfl r'.2.2.2.1 (dX (λhc=>?_) λhc=>?_);have E:n<L.length:=(by have:=zC hc;omega);have u:=zA E;rw[zX E,qB] at V;generalize L[n]=x at u V;refine gP (λz w'=>∃B',z.2=(c||lP d x)/\eU jO 4 w' z.1 (C++if c=false/\lP d x=true then [d] else []) B'/\Fr [] I w'/\∀x∈B',I.heap.size<=x) ?_ ?_;refine gP (λz w'=>z=decide (c=false/\lP d x=true)/\Fr [] w7 w') ?_ ?_;cases c;refine HK rfl (Ij o7.drew 1 rfl d (Ii o7.drew 2 rfl r'.2.2.2.1 (ee.rK (y:=x) az.drew n rfl u rfl rfl (qwz λw8 f8=>⟨?_,(Fr.refl [] w7).drew.trans f8⟩))));cases lP d x<;>simp;exact HM rfl ⟨oL,(Fr.refl [] w7).drew⟩;rintro z w8 ⟨rfl,f8⟩;have al:=hb.q7 f8;apply dX<;>intro J;have J:=zC J;rw[iP J];refine Ij (o7.q7 f8) 1 rfl d (Bw al oJ λs9 B9 w9 b9 G R=>⟨B9,by dsimp only;rw[J.2,Bool.or_true],b9,(f7.trans f8).j8 G λx u=>.inr (nB x u),λx u=>(R x u).elim (nB x) (zL (f7.trans f8).size)⟩);have J:=zB J;rw[iN J,xG];exact⟨B,by dsimp only;cases c<;>simp at J⊢;exact J,al,f7.trans f8,nB⟩;rintro⟨s9,c9⟩ w9 ⟨B9,rfl,b9,G,R⟩;dsimp only at b9⊢;refine Ii (o.q7 G) 2 rfl r'.2.2.2.1 (ee.rK (y:=x) (U.q7 G) n rfl u rfl rfl (Bw b9 (by rw[zF];split<;>simp<;>omega) λa4 aC aD aE aa aF=>?_));refine hX _ _ ⟨n+1,aC,_,by dsimp only;rw[gi _ oJ];rfl,E,aE,by rw[<- V];simp only[zV,xI,xH],by rw[zF,zF];split<;>simp<;>omega,G.j8 aa λx u=>.inr (R x u),λx u=>(aF x u).elim (R x) (zL G.size)⟩ (by dsimp only;rw[gi _ oJ];omega);have E:n=L.length:=(by have:=zB hc;omega);subst E;rw[drop_length,qB] at V;refine gP (λz w'=>∃B',eU jO 4 w' z (jS d L) B'/\Fr [] I w'/\∀x∈B',I.heap.size<=x) ?_ ?_;cases c;rw[iN oM] at V;refine HK rfl (Ij o7 1 rfl d (Bw hb oJ λs9 B9 w9 b9 G R=>⟨B9,by rw[<- V];exact b9,f7.j8 G λx u=>.inr (nB x u),λx u=>(R x u).elim (nB x) (zL f7.size)⟩));rw[iP rfl,xG] at V;exact HM rfl ⟨B,by rw[<- V];exact hb,f7,nB⟩;rintro s9 w9 ⟨B9,b9,G,R⟩;refine (o.q7 G).st' 2 rfl (HL.mk gg (r'.1,r'.2.1,r'.2.2.1,s9,r'.2.2.2.2)).toArray rfl rfl (zO rfl) λaD an aa=>Ij an 2 rfl (r'.1,r'.2.1,r'.2.2.1,s9,r'.2.2.2.2) (an.st' 0 rfl _ (k7 rfl) rfl (zM _) λaG ao ap=>Ij ao 0 rfl (r'.1,r'.2.1,r'.2.2.1,s9,r'.2.2.2.2) ?_);have g9:=h5.q7 G;have aH:=g9.q8 (aa.mono λx u _=>by rw[zE.1 u];exact HQ) λx u=>.inl u;have hr:=aH.q8 (S':=S) (ap.mono λx u _=>by rw[zE.1 u];exact zN _ HQ) λx u=>.inl (zN _ (zN _ u));have aq:=(b9.q8 aa λx u h=>by have:=R x u;have:=zE.1 h;omega).q8 ap λx u h=>by have:=R x u;have:=zE.1 h;omega
 exact kk (r'.1,r'.2.1,r'.2.2.1,s9,r'.2.2.2.2) aG ⟨hr.acc,hr.jB,hr.jT,by rw[ab];exact wY (w0:=I) aq BJ (λx u=>yC (hS x u) (zL aw z5)) R,hr.k6,hr.lg,hr.jn,hr.told,hr.gone⟩ ao.fr
end
section
open Go Go.Pt List
open Go.IntKind (wrap)
open Classical
attribute [local irreducible] ld dL gZ mP i3 fc st new idx i4 jg fB jk iO lS gB nn call dZ inv run eW iC join loop held ext jU eH mv mp mA IntKind.wrap
end
section
open Go Go.Pt List
open Go.IntKind (wrap)
open Classical
attribute [local irreducible] ld dL gZ mP i3 fc st new idx i4 jg fB jk iO lS gB nn call dZ inv run eW iC join loop held ext jU eH mv mp mA IntKind.wrap
variable {K:Addr->Prop} {S:Ik} {w:Ic}
def qz1{s:Sl}{i:Int}{k:Nat}{p:Prop}(u:p)(h:idx s i k K):idx s i k λa=>gB p (K a):=by unfold idx at h⊢;obtain⟨a,C,E,G⟩:=h;exact⟨a,C,E,m8 u G⟩
def DV(x:Kp):∀u∈pg x,u.oneCell'=true:=all_eq_true.1 rfl
def qAS:∃i,Tryz.prog.info? Bu=some i/\i.zero=some (.agg (pg v8).toArray)/\i.size=18/\i.bytes=128:=sV oK
def qvf{r:oz}{b:Bk}{k:Kp}{K:oz->WP}(h:RB S w r b)(hl:b.size<=100000)(hS:∀x∈S,x<w.heap.size)(kk:∀r' w',RB S w' r' (b.jo k)->Fr [] w w'->K r' w'): cW 65 [HJ gg r,.agg (pg k).toArray] [.agg gg] w K:=by
 refine qcW ?_;have ak:b.jB.length<=100000/\b.k6.length<=100000/\b.lg.length<=100000:=(by unfold Bk.size at hl;omega);obtain⟨i,hi,hz,al,am⟩:=qAS;refine oB (oE [] w) λE w1 _ f1 o=>oB o λr3 w2 _ f2 o=>oB o λG w3 _ f3 o=>Ij o 1 rfl k.1 (oB o λr8 w4 _ f4 o=>o.st' 0 rfl _ (k7 rfl) rfl (zM _) λw5 o f5=>?_);have l1:E<w5.heap.size:=eX (o.at (i:=3) rfl);have l5:G<w5.heap.size:=eX (o.at (i:=1) rfl);have n1:w.heap.size<=E:=(o.own _ (yE (i:=3) rfl)).elim (λh=>nomatch h) id;have n5:w.heap.size<=G:=(o.own _ (yE (i:=1) rfl)).elim (λh=>nomatch h) id;have an:∀x∈E::G::S,x<w5.heap.size:=λx u=>by rcases zG.1 u with rfl|u;exact l1;rcases zG.1 u with rfl|u;exact l5;exact yC (hS x u) o.fr.size
 have h0:RB (E::G::S) w r b:=h.q8 (.refl _ _) λx u=>by rcases zG.1 u with rfl|u;exact .inr n1;rcases zG.1 u with rfl|u;exact .inr n5;exact .inl u
 have h5:=h0.q7 o.fr;have C:∀ {w w':Ic},Fr [E] w w'->Fr (E::G::S) w w':=λf=>f.mono λx u _=>by rw[zE.1 u];exact HQ
 refine Ii o 3 rfl r.2.2.2.2.1 (Ij o 0 rfl (k.1.2.2.1,k.1.2.2.2.1) (Ii o 0 rfl k.1.2.2.2.2.2.2.2.2.2.2.2.2.2.2.2 (Ij o 0 rfl (k.1.1,k.1.2.1) (qrO (m:=ww k.1) h5.k6 ak.2.1 an λs6 w6 d6 J=>?_))));refine (o.q7 J).st' 3 rfl (HL.mk gg (r.1,r.2.1,r.2.2.1,r.2.2.2.1,s6,r.2.2.2.2.2)).toArray rfl rfl (zO rfl) λw7 o f7=>?_;have h7:=(h5.q7 J).q8 (C f7) λx u=>.inl u;have d7:=d6.q8 (C f7) λx u=>.inl u;have z7:w5.heap.size<=w7.heap.size:=zL J.size f7.size;refine Ii o 3 rfl r.2.2.2.2.2.1 (Ij o 0 rfl (k.1.2.2.2.2.1,k.1.2.2.2.2.2.1) (Ii o 0 rfl k.1.2.2.2.2.2.2.2.2.2.2.2.2.2.2.2 (Ij o 0 rfl (k.1.1,k.1.2.1) (qrO (m:=A8 k.1) h7.lg ak.2.2 (λx u=>yC (an x u) z7) λs8 w8 aD f8=>?_))));refine (o.q7 f8).st' 3 rfl (HL.mk gg (r.1,r.2.1,r.2.2.1,r.2.2.2.1,s6,s8,r.2.2.2.2.2.2)).toArray rfl rfl (zO rfl) λw9 o f9=>?_;have h9:=(h7.q7 f8).q8 (C f9) λx u=>.inl u;have d9:=(d7.q7 f8).q8 (C f9) λx u=>.inl u;have c9:=aD.q8 (C f9) λx u=>.inl u;have ba:E<w9.heap.size:=eX (o.at (i:=3) rfl);have bb:G<w9.heap.size:=eX (o.at (i:=1) rfl);refine oB (oE [] w9) λr7 bc e7 R o2=>?_;have aG:=o.q7 R;refine Ii aG 3 rfl r.2.1 (AJ (e:=Bu) (o2.at (i:=0) rfl) (h9.q7 R).jB qd DV oK hi hz al rfl (by rw[am];decide) oJ λap B5 aq b5 aI aJ=>?_);have U:∀x∈B5,w9.heap.size<=x:=λx u=>(aJ x u).elim (λe=>oJ) λh=>zL R.size h;have ad:Fr [] w9 aq:=R.j8 aI λx u=>.inr (by rw[zE.1 u];omega);have ar:∀(s:Sl) (l:List Kp) (B:Ik) w6,eU pg 18 w6 s l B->(∀x∈B,w9.heap.size<=x)->Fr [] w9 w6->l=gO pV k b.jB->Pt.st (dg E 1) [s.v] w6 λw7=>dL gg (dg E) w7 λt=>Pt.st (dg G) (HL.mk gg t) w7 λw8=>dL gg (dg G) w8 λt=>K t w8:=λs l B bg hb hB V e=>by
  refine (o.q7 V).st' 3 rfl (HL.mk gg (r.1,s,r.2.2.1,r.2.2.2.1,s6,s8,r.2.2.2.2.2.2)).toArray rfl rfl (zO rfl) λav aw aa=>Ij aw 3 rfl (r.1,s,r.2.2.1,r.2.2.2.1,s6,s8,r.2.2.2.2.2.2) (aw.st' 1 rfl _ (k7 rfl) rfl (zM _) λae ax ay=>Ij ax 1 rfl (r.1,s,r.2.2.1,r.2.2.2.1,s6,s8,r.2.2.2.2.2.2) ?_);have af:Fr (E::G::S) av ae:=ay.mono λx u _=>by rw[zE.1 u];exact zN _ HQ
  have dn:∀x∈S,x∈E::G::S\/av.heap.size<=x:=λx u=>.inl (zN _ (zN _ u));have hr:=((h9.q7 V).q8 (C aa) λx u=>.inl u).q8 af dn;have hd:=((d9.q7 V).q8 (C aa) λx u=>.inl u).q8 af dn;have hc:=((c9.q7 V).q8 (C aa) λx u=>.inl u).q8 af dn;have aM:=(hb.q8 aa λx u h=>by have:=hB x u;have:=zE.1 h;omega).q8 ay λx u h=>by have:=hB x u;have:=zE.1 h;omega
  have aN:ee pg 18 S ae s (gO pV k b.jB):=(by rw[<- e];exact wY aM qd hS λx u=>zL o.fr.size (hB x u));exact kk _ ae ⟨hr.acc,aN,hr.jT,hr.due,hd,hc,hr.jn,hr.told,hr.gone⟩ ax.fr
 have bi:ap.len=b.jB.length:=b5.len;refine iX (λq w'=>∃n:Nat,q=n/\n<=b.jB.length/\Fr [] aq w'/\((b.jB.take n).find? λx=>decide (pV x=pV k))=none) (λq _=>b.jB.length-q.toNat) ⟨0,rfl,yW _,.refl _ _,rfl⟩ ?_;rintro q w6 ⟨n,rfl,hn,J,hf⟩ X hX;apply cD<;>intro hc;have I:n<b.jB.length:=oJ;have u:=zA I;have b6:=(b5.q7 J).q7 (Fr.refl [] w6).drew;have o6:=o.q7 ((ad.trans J).drew);refine ee.jm (cl:=u2) (S:=[]) (b6.jz qd λ_ _ h=>nomatch h) n rfl u oM rfl (Ij o6 0 rfl (pV k) (AE (a:=pV b.jB[n]) ?_));have st:=BL (p:=λx=>decide (pV x=pV k)) u hf;apply dX<;>intro hb;refine nP (o6.at (i:=2) rfl) (pg k) (qd k) rfl ?_;have:=FI (K:=λaO=>Pt.st (dg E 1) [ap.v] aO λw7=>dL gg (dg E) w7 λt=>Pt.st (dg G) (HL.mk gg t) w7 λw8=>dL gg (dg G) w8 λt=>K t w8) b6 qd DV (x:=k) rfl I λw7 b7 f7=>ar _ _ _ _ b7 U ((ad.trans J).drew.j8 f7 λx u=>.inr (U x u)) (BU u hf (zC hb)).symm;exact qz1 (qd k) this;rw[gi _ oJ];exact hX _ _ ⟨n+1,rfl,I,J.drew,st.2 hb⟩ oJ;have I:n=b.jB.length:=oJ;subst I;rw[xY] at hf;have ag:=ad.trans J;refine nP ((o.q7 ag).at (i:=2) rfl) (pg k) (qd k) rfl (m8 (qd k) (eU.push (e:=Bu) (x:=k) (b5.q7 J) qd (DV k) oK hi hz al rfl rfl (by rw[am];omega) oJ λs7 B7 w7 b7 f7 n7=>ar _ _ _ _ b7 (λx u=>(n7 x u).elim (U x) (zL ag.size)) (ag.j8 f7 λx u=>.inr (U x u)) (AQ hf).symm))
abbrev GO:If:=117
def AA(x:Ln):(mG x).length=12:=rfl
def qqf(x:Ln):∀u∈mG x,u.oneCell'=true:=all_eq_true.1 rfl
def qAT:∃i,Tryz.prog.info? GO=some i/\i.zero=some (.agg (mG ((0,0),AI)).toArray)/\i.size=12/\i.bytes=96:=sV oK
def qBt{α:Type}{enc:α->List Ie}{k:Nat}{s:Sl}{l:List α}(h:ee enc k S w s l)(n:Nat){i:Int}{x:α}(hi:i=n)(E:l[n]?=some x)(G:∀b o u T C,w.heap[b]?=some (.cells u T C)->(u.toList.drop o).take k=enc x->K (dg b o)):idx s i k K:=by subst hi;obtain⟨U,b,o,I,_,u,T,C,J,R⟩:=ee.at h n E;refine qs I ⟨oJ,oJ⟩ ?_;rw[zJ];exact G b _ u T C J R
def qve{r:oz}{b:Bk}{a0 a1:Int}{x:HL mt}{K:oz->WP}(h:RB S w r b)(hl:b.size<=100000)(hS:∀x∈S,x<w.heap.size)(kk:∀r' w',RB S w' r' (b.lY ((a0,a1),x))->Fr [] w w'->K r' w'): cW 70 [HJ gg r,de a0 a1,HJ mt x] [.agg gg] w K:=by
 refine qew ?_;have aL:b.jn.length<=100000:=(by unfold Bk.size at hl;omega);obtain⟨i,hi,hz,ad,ae⟩:=qAT;have hm:∃m:Ln,m=((a0,a1),x):=⟨_,rfl⟩;obtain⟨m,em⟩:=hm;rw[<- em] at kk;refine oB (oE [] w) λr1 w1 _ f1 o=>oB o λr3 w2 _ f2 o=>oB o λr5 aN _ aO o=>oB o λr7 V _ f3 o=>oB (oE [] V) λr9 w4 e4 f4 o2=>?_;have o4:=o.q7 f4;refine Ii o4 3 rfl r.2.2.2.2.2.2.1 (AJ (e:=GO) (o2.at (i:=0) rfl) (h.q7 o4.fr).jn AA qqf oK hi hz ad rfl (by rw[ae];decide) oJ λs5 B5 w5 b5 f5 n5=>?_);have G:∀x∈B5,V.heap.size<=x:=λx u=>(n5 x u).elim (λe=>oJ) λh=>zL f4.size h;have aa:Fr [] V w5:=f4.j8 f5 λx u=>.inr (by rw[zE.1 u];omega);have af:∀(s:Sl) (l:List Ln) (B:Ik) J,eU mG 12 J s l B->(∀x∈B,V.heap.size<=x)->Fr [] V J->l=gO rf m b.jn->Pt.st (dg r1 6) [s.v] J λw7=>dL gg (dg r1) w7 λt=>Pt.st (dg r7) (HL.mk gg t) w7 λw8=>dL gg (dg r7) w8 λt=>K t w8:=λs l B J C hB R e=>by
  refine (o.q7 R).st' 3 rfl (HL.mk gg (r.1,r.2.1,r.2.2.1,r.2.2.2.1,r.2.2.2.2.1,r.2.2.2.2.2.1,s,r.2.2.2.2.2.2.2)).toArray rfl rfl (zO rfl) λw7 o7 f7=>Ij o7 3 rfl (r.1,r.2.1,r.2.2.1,r.2.2.2.1,r.2.2.2.2.1,r.2.2.2.2.2.1,s,r.2.2.2.2.2.2.2) (o7.st' 0 rfl _ (k7 rfl) rfl (zM _) λw8 o8 f8=>Ij o8 0 rfl (r.1,r.2.1,r.2.2.1,r.2.2.2.1,r.2.2.2.2.1,r.2.2.2.2.2.1,s,r.2.2.2.2.2.2.2) ?_);have U:=h.q7 o8.fr;have l1:r1<V.heap.size:=eX (o.at (i:=3) rfl);have l5:r7<V.heap.size:=eX (o.at (i:=0) rfl);have ap:=(C.q8 f7 λx u h=>by have:=hB x u;have:=zE.1 h;omega).q8 f8 λx u h=>by have:=hB x u;have:=zE.1 h;omega
  have aq:ee mG 12 S w8 s (gO rf m b.jn):=(by rw[<- e];exact wY ap AA hS λx u=>zL o.fr.size (hB x u));exact kk _ w8 ⟨U.acc,U.jB,U.jT,U.due,U.k6,U.lg,aq,U.told,U.gone⟩ o8.fr
 have aV:s5.len=b.jn.length:=b5.len;refine iX (λq w'=>∃n:Nat,q=n/\n<=b.jn.length/\Fr [] w5 w'/\((b.jn.take n).find? λx=>decide (rf x=rf m))=none) (λq _=>b.jn.length-q.toNat) ⟨0,rfl,yW _,.refl _ _,rfl⟩ ?_;rintro q J ⟨n,rfl,hn,R,hf⟩ X hX;apply cD<;>intro hc;have E:n<b.jn.length:=oJ;have u:=zA E;have b6:=(b5.q7 R).q7 (Fr.refl [] J).drew;have o6:=o.q7 ((aa.trans R).drew);have r6:ee mG 12 [] J.drew s5 b.jn:=b6.jz AA λ_ _ h=>nomatch h;refine vd (decide (rf b.jn[n]=rf m)) J.drew (λM hM=>?_) ?_;refine ee.jm (cl:=u2) r6 n rfl u oM rfl (Ij o6 2 rfl (a0,a1) (AE (a:=b.jn[n].1) ?_));apply dX<;>intro C;have C:=zC C;refine qBt r6 n rfl u λb' o' cs T fr aw ax=>?_;simp only[Addr.q9];refine io aw (mW (lB b.jn[n].2)) ?_ (Ii o6 1 rfl (mW (lB x)) ?_);have e:(mG b.jn[n])[10]?=some (.w (mW (lB b.jn[n].2))):=rfl;rw[<- ax,xA,iP oM,yZ] at e;rw[<- xK];exact e;rw[show (mW (lB b.jn[n].2)==mW (lB x))=decide (rf b.jn[n]=rf m) by unfold rf;rw[C,em];by_cases e:mW (lB b.jn[n].2)=mW (lB x);simp[e];simp[e]];exact hM;have C:=zB C;rw[show decide (rf b.jn[n]=rf m)=false from zU λe=>C (by rw[em] at e;exact (vA e).1)] at hM;exact hM;have st:=BL (p:=λx=>decide (rf x=rf m)) u hf;apply dX<;>intro C;have hk:=zC C;have h1:b.jn[n].1=(a0,a1):=(by rw[em] at hk;exact (vA hk).1);refine Ij o6 1 rfl x (qui (j:=2) (x:=m) (vs:=HL.mk mt x) b6 AA rfl E rfl (zM _) (by rw[em,show mG b.jn[n]=mG (b.jn[n].1,b.jn[n].2) from rfl,h1];rfl) λw7 b7 f7=>af _ _ _ _ b7 G ((aa.trans R).drew.j8 f7 λx u=>.inr (G x u)) (BU u hf hk).symm);rw[gi _ oJ];exact hX _ _ ⟨n+1,rfl,E,R.drew,st.2 C⟩ oJ;have E:n=b.jn.length:=oJ;subst E;rw[xY] at hf;have I:=aa.trans R;refine Ij (o.q7 I) 2 rfl (a0,a1) (Ij (o.q7 I) 1 rfl x (eU.push (e:=GO) (x:=m) (b5.q7 R) AA (qqf m) oK hi hz ad rfl (by rw[em];rfl) (by rw[ae];omega) oJ λs7 B7 w7 b7 f7 n7=>af _ _ _ _ b7 (λx u=>(n7 x u).elim (G x) (zL I.size)) (I.j8 f7 λx u=>.inr (G x u)) (AQ hf).symm))
section
abbrev WF:FuncId:=86
structure DY (w:Ic) (v:Ie) (pb:Nat) (t:Int) (frm to:Key) (down:Bool) (WB:Ik):Prop where
 val:∃ r1 r3 r5 r7 r9 s1 s2 B1 B2,v=.func (.func WF) #[] #[dG r1,dG r3,dG r5,dG r7,dG r9]/\WB=r1::r3::r5::r7::r9::(B1++B2)/\
  w.cell? (dg r1)=some (dG pb)/\w.cell? (dg r3)=some (.i t)/\w.cell? (dg r5)=some s1.v/\w.cell? (dg r7)=some s2.v/\w.cell? (dg r9)=some (.bool down)/\fR w s1 frm B1/\fR w s2 to B2
 lt:∀ b∈WB,b<w.heap.size
section
variable {dbk pb:Nat} {FD F:Ik} {D:dJ} {M:dV} {k v:Nat} {frm to:Key} {down:Bool} {w:Ic}
structure Ht (yield:Ie) (Yc:Ik) (wb:Ic) (L:fP) (I:Nat->WP) (E:WP):Prop where
 stay:∀ i W W' Z,I i W->Fr Z W W'->(∀ b∈Z,wb.heap.size<=b)->I i W'
 take:∀ i (hi:i<L.length) W ks vs B1 B2 (K:Bool->WP),I i W->fR W ks L[i].1 B1->fR W vs L[i].2 B2->(∀ b∈B1++B2,wb.heap.size<=b)->wb.heap.size<=W.heap.size->(∀ W',Fr Yc W W'->I (i+1) W'->K true W')->(∀ W',E W'->K false W')->dZ Tryz.prog yield [ks.v,vs.v] dj W K
end
end
end
section
open Go Go.Pt List
open Go.IntKind (wrap)
open Classical
attribute [local irreducible] ld dL gZ mP i3 fc st new idx i4 jg fB jk iO lS gB nn call dZ inv run eW iC join loop held ext jU eH mv mp mA IntKind.wrap
end
section
open Go Go.Pt List
open Go.IntKind (wrap)
variable {d:HL iI} {l:List (HL iI)} {q:Nat×Nat×Gh}
abbrev Ov:=Int×HL iJ×Kp×je×Int×HL iI×HL mt×Int
def rP (o:Ov):Int:=o.1
def uz (o:Ov):HL iJ:=o.2.1
def sY (o:Ov):Kp:=o.2.2.1
def tE (o:Ov):je:=o.2.2.2.1
def yh (o:Ov):Int:=o.2.2.2.2.1
def qy (o:Ov):HL iI:=o.2.2.2.2.2.1
def zn (o:Ov):HL mt:=o.2.2.2.2.2.2.1
def ux (o:Ov):Int:=o.2.2.2.2.2.2.2
structure ru (o:Ov):Prop where
 d:IntKind.u8.has (rP o)
 a:jx iJ (uz o)
 k:tj (sY o)
 i:lu (tE o)
 s:IntKind.u8.has (yh o)
 u:jx iI (qy o)
 r:jx mt (zn o)
 n:IntKind.u64.has (ux o)
def nm (b:Bk) (o:Ov):Bk:=
 if rP o%8=0 then b.kO (uz o) else if rP o%8=1 then b.jo (sY o) else if rP o%8=2 then b.lG (tE o,yh o)
 else if rP o%8=3 then b.i9 (qy o) else if rP o%8=4 then b.jh (qy o) else if rP o%8=5 then b.lY (tE o,zn o)
 else if rP o%8=6 then b.jL (ux o) else b.wP
def Bj{a b:HL iI}:lP a b=true↔(kB a).1<(kB b).1\/(kB a).1=(kB b).1/\(kB a).2<(kB b).2:=by unfold lP;rw[yM];exact Iff.rfl
def qyS{x:HL iI}:x∈jS d l↔x=d\/x∈l:=by rw[CV.mem_iff,zG]
def qqq{d:HL iI}:∀ {l:List (HL iI)},tr l->(∀x∈l,kB x≠kB d)->tr (jS d l)
 | [],_,_=>pairwise_singleton _ _
 | x::r,h,E=>by have C:=yI.1 h;unfold jS;by_cases e:lP d x=true;rw[iP e];refine yI.2 ⟨λy u=>?_,h⟩;rcases zG.1 u with rfl|u;exact e;have G:=C.1 y u;rw[Bj] at e G⊢;omega;rw[iN e];refine yI.2 ⟨λy u=>?_,qqq C.2 λy u=>E y (zN _ u)⟩;rcases qyS.1 u with rfl|u;have I:=E x HQ;rw[Bj] at e⊢;have G:¬((kB x).1=(kB y).1/\(kB x).2=(kB y).2):=λh=>I (Prod.ext h.1 h.2);omega;exact C.1 y u
structure Bt (n i:Nat) (b:Bk):Prop where
 size:b.size<=3*i
 dus:tr b.due
 blocks:b.cm.1=n
 wP:b.cm.2.1<=i+1
 last:∀ n,b.last=some n->nf n
section
variable {n i:Nat} {b:Bk} {o:Ov}
def Bk.rc{a:HL iJ}:(b.kO a).size<=b.size+1:=by
 have:=uJ (kf:=kr) (a:=a) (l:=b.acc);unfold Bk.kO Bk.size;dsimp only;omega
def Bk.qX{x:je×Int}:(b.lG x).size<=b.size+1:=by
 have:=uJ (kf:=λx:je×Int=>x.1) (a:=x) (l:=b.jT);unfold Bk.lG Bk.size;dsimp only;omega
def Bk.qP{x:Ln}:(b.lY x).size<=b.size+1:=by
 have:=uJ (kf:=rf) (a:=x) (l:=b.jn);unfold Bk.lY Bk.size;dsimp only;omega
def Bk.nV{k:Kp}:(b.jo k).size<=b.size+3:=by have h:=uJ (kf:=pV) (a:=k) (l:=b.jB);have u:=uJ (kf:=mX) (a:=ww k.1) (l:=b.k6);have C:=uJ (kf:=mX) (a:=A8 k.1) (l:=b.lg);unfold Bk.jo Bk.kG Bk.mR Bk.pc Bk.size;dsimp only;omega
def qp7:(gH d l).length<=l.length:=length_filter_le _ _
def Bk.oo:(b.jh d).size<=b.size:=by
 have:=qp7 (d:=d) (l:=b.due);unfold Bk.jh Bk.size;dsimp only;omega
def Bk.qD:(b.i9 d).size<=b.size+1:=by have h:=qp7 (d:=d) (l:=b.due);have u:(jS d (gH d b.due)).length=(gH d b.due).length+1:=(by rw[CV.length_eq,yH]);unfold Bk.i9 Bk.size;dsimp only;omega
def Bk.nj{x:Int}:(b.jL x).size<=b.size+1:=by unfold Bk.jL Bk.size;have:(some x).toList.length=1:=rfl;dsimp only;omega
def qp6(h:tr l):tr (gH d l):=List.Pairwise.sublist filter_sublist h
def G4(h:tr b.due):tr (b.i9 d).due:=qqq (qp6 h) λx u=>zC (mem_filter.1 u).2
def Bt.step(h:Bt n i b)(G:ru o):Bt n (i+1) (nm b o):=by obtain⟨J,u,C,R,E⟩:=h;unfold nm;split;exact⟨by have:=Bk.rc (b:=b) (a:=uz o);omega,u,C,by show b.cm.2.1<=_;omega,E⟩;split;exact⟨by have:=Bk.nV (b:=b) (k:=sY o);omega,u,C,by show b.cm.2.1<=_;omega,E⟩;split;exact⟨by have:=Bk.qX (b:=b) (x:=(tE o,yh o));omega,u,C,by show b.cm.2.1<=_;omega,E⟩;split;exact⟨by have:=Bk.qD (b:=b) (d:=qy o);omega,G4 u,C,by show b.cm.2.1<=_;omega,E⟩;split;exact⟨by have:=Bk.oo (b:=b) (d:=qy o);omega,qp6 u,C,by show b.cm.2.1<=_;omega,E⟩;split;exact⟨by have:=Bk.qP (b:=b) (x:=(tE o,zn o));omega,u,C,by show b.cm.2.1<=_;omega,E⟩;split;exact⟨by have:=Bk.nj (b:=b) (x:=ux o);omega,u,C,by show b.cm.2.1<=_;omega,λn I=>by cases I;exact qI G.n⟩;exact⟨by show b.size<=_;omega,u,C,by show b.cm.2.1+1<=_;omega,E⟩
end
def oc (q:Nat×Nat×Gh) (l:List Ov):Bk:=l.foldl nm (wX q)
def qnK{l:List Ov}{o:Ov}:oc q (l++[o])=nm (oc q l) o:=by unfold oc;rw[foldl_append];rfl
def Gg{q:Nat×Nat×Gh}(C:q.2.1=1):∀k (l:List Ov),k<=l.length->(∀o∈l,ru o)->Bt q.1 k (oc q (l.take k))
 | 0,l,_,_=>⟨zM _,.nil,rfl,by show q.2.1<=_;omega,λ_ h=>nomatch h⟩
 | k+1,l,h,u=>by rw[yF oJ,qnK];exact (Gg C k l oJ u).step (u _ (zW _))
section
section
variable {α κ:Type} [DecidableEq κ] {kf:α->κ} {a:α}
def Hf:∀ {l:List α},(l.find? λx=>decide (kf x=kf a))=some a->gO kf a l=l
 | x::r,h=>by unfold gO;by_cases e:kf x=kf a;rw[List.find?_cons,zZ e] at h;rw[iP e,yN h];rw[List.find?_cons,zU e] at h;rw[iN e,Hf h]
def GB:∀ {l:List α},kf a∈l.map kf->(gO kf a l).map kf=l.map kf
 | x::r,h=>by unfold gO;by_cases e:kf x=kf a;rw[iP e,xN,xN,e];rw[iN e,xN,xN,GB (((zG.1 h).resolve_left) λh=>e h.symm)]
def FG:∀ {l:List α},kf a∈(gO kf a l).map kf
 | []=>by simp[gO]
 | x::r=>by unfold gO;split;simp;rw[xN];exact zN _ FG
def EZ{k:κ}:∀ {l:List α},k∈l.map kf->k∈(gO kf a l).map kf
 | x::r,h=>by
  unfold gO;rw[xN,zG] at h;split
  ·next e=>
   rw[xN,zG];exact h.imp (λh=>h.trans e) id
  rw[xN,zG];exact h.imp id EZ
end
def qqp{d:HL iI}:∀ {l:List (HL iI)},tr l->d∈l->jS d (gH d l)=l
 | x::r,h,u=>by
  have C:=yI.1 h;have G:∀y∈r,kB y≠kB x:=λy E e=>by
   have:=C.1 y E;rw[Bj,e] at this;omega
  unfold gH;rw[filter_cons];rcases zG.1 u with rfl|u;rw[iN oL,filter_eq_self.2 λy E=>zZ (G y E)];cases r with
  | nil=>rfl
  | cons y r=>unfold jS;rw[iP (C.1 y HQ)]
  have I:=C.1 d u;rw[iP (zZ (Ne.symm (G d u)))];have:=qqp C.2 u;unfold gH at this;have J:lP d x=false:=by
   rw[Bj] at I;cases R:lP d x with
   | false=>rfl
   | true=>rw[Bj] at R;omega
  unfold jS;rw[iN (by rw[J];decide),this]
def xm (b:Bk):Prop:=∀k∈b.jB,mX (ww k.1)∈b.k6.map mX/\mX (A8 k.1)∈b.lg.map mX
def xm.step{b:Bk}{o:Ov}(h:xm b):xm (nm b o):=by unfold nm;split;exact h;split;intro k u;rcases EC u with rfl|u;exact⟨FG,FG⟩;exact⟨EZ (h k u).1,EZ (h k u).2⟩;split;exact h;split;exact h;split;exact h;split;exact h;split<;>exact h
def qwF:∀l:List Ov,xm (oc q l):=λl=>by
 have:∀(l:List Ov) (b:Bk),xm b->xm (l.foldl nm b):=by
  intro l;induction l with
  | nil=>exact λb h=>h
  | cons o l ih=>exact λb h=>ih _ h.step
 exact this l _ λ_ h=>nomatch h
structure rI (b b':Bk):Prop where
 acc:b'.acc=b.acc
 jB:b'.jB=b.jB
 jT:b'.jT=b.jT
 due:b'.due=b.due
 k6:b'.k6.map mX=b.k6.map mX
 lg:b'.lg.map mX=b.lg.map mX
 jn:b'.jn=b.jn
 last:b'.last=b.last
section
variable {b b':Bk}
def rI.size(h:rI b b'):b'.size=b.size:=by have u:=H9 List.length h.k6;have C:=H9 List.length h.lg;rw[zK,zK] at u C;unfold Bk.size;rw[h.acc,h.jB,h.jT,h.due,h.jn,h.last,u,C]
def rI.kO(h:rI b b'){a:HL iJ}(u:mK b' (kr a)=some a):rI b (b'.kO a):=
 ⟨(Hf u).trans h.acc,h.jB,h.jT,h.due,h.k6,h.lg,h.jn,h.last⟩
def rI.kG(h:rI b b')(E:xm b){k:Kp}(C:mD b' (pV k)=some k):rI b (b'.jo k):=by have u:k∈b.jB:=(by rw[<- h.jB];exact mem_of_find?_eq_some C);obtain⟨G,I⟩:=E k u;exact⟨h.acc,(Hf C).trans h.jB,h.jT,h.due,(GB (l:=b'.k6) (by rw[h.k6];exact G)).trans h.k6,(GB (l:=b'.lg) (by rw[h.lg];exact I)).trans h.lg,h.jn,h.last⟩
def rI.FV(h:rI b b')(C:tr b.due)(u:d∈b.due):rI b ((b'.jh d).i9 d):=by refine⟨h.acc,h.jB,h.jT,?_,h.k6,h.lg,h.jn,h.last⟩;show jS d (gH d (gH d b'.due))=_;have e:gH d (gH d b'.due)=gH d b'.due:=(by unfold gH;rw[filter_filter];simp);rw[e,h.due,qqp C u]
end
end
end
section
open Go Go.ChangeShapes Go.WideShapes Go.ChangeAt Go.RowKit Go.Pt
def Cs:List Cell->List Ie->Prop
 | [],[]=>True
 | c::h,v::vs=>(∃x:c.El,v=c.mk x/\tu c x)/\Cs h vs
 | _,_=>False
def Cs.te:∀ {a b:List Cell} {u v:List Ie},Cs a u->Cs b v->Cs (a++b) (u++v)
 | [],b,[],v,_,h=>h
 | c::a,b,x::u,v,h,g=>⟨h.1,Cs.te h.2 g⟩
 | [],_,_::_,_,h,_=>h.elim
 | _::_,_,[],_,h,_=>h.elim
def Cs.split:∀ {a b:List Cell} {vs:List Ie},Cs (a++b) vs->∃u v,vs=u++v/\Cs a u/\Cs b v
 | [],b,vs,h=>⟨[],vs,rfl,trivial,h⟩
 | c::a,b,x::vs,h=>by obtain⟨u,v,e,C,E⟩:=Cs.split h.2;exact⟨x::u,v,by rw[e];rfl,⟨h.1,C⟩,E⟩
 | _::_,_,[],h=>h.elim
def Cs.hl:∀ {cs:List Cell} {vs:List Ie},Cs cs vs->∃x:HL cs,vs=HL.mk cs x/\jx cs x
 | [],[],_=>⟨(),rfl,trivial⟩
 | [c],[v],h=>by obtain⟨x,u,C⟩:=h.1;exact⟨x,by rw[u];rfl,C⟩
 | c::E::cs,v::vs,h=>by obtain⟨x,u,C⟩:=h.1;obtain⟨y,G,I⟩:=Cs.hl (cs:=E::cs) h.2;exact⟨(x,y),by rw[u,G];rfl,C,I⟩
 | [],_::_,h=>h.elim
 | [_],[],h=>h.elim
 | [_],_::_::_,h=>h.2.elim
 | _::_::_,[],h=>h.elim
def ss (P:Ig) (f:If->Option (List Cell)):Nat->List Field->Option (List Cell)
 | _,[]=>some []
 | k,x::h=>bif Nat.beq x.offset k then match f x.type with
  | some a=>bif Nat.beq (P.cellsOf x.type) a.length then (ss P f (k+a.length) h).map (a++·) else none
  | none=>none else none
def tM (P:Ig):Nat->If->Option (List Cell)
 | 0,_=>none
 | d+1,t=>match P.underlying t with
  | some (.int k)=>some [.int k]
  | some .bool=>some [.bool]
  | some (.struct u)=>match ss P (tM P d) 0 u.toList with
   | some h=>bif Nat.beq (P.cellsOf t) h.length then some h else none
   | none=>none
  | _=>none
section
variable {H:Type} {enc:If×Ie->H} {P:Ig} {W:Ic} {base:Nat} {spare:Nat->Bool} {held:Bool}
def qr5{f:If->Option (List Cell)}{cells:List Ie}(I:∀t cs,f t=some cs->∀n vs y,DataW.trod enc P W base spare held n t vs=some y->Cs cs vs):∀ {u:List Field} {k:Nat} {cs:List Cell},ss P f k u=some cs-> (∀x∈u,∃n y,DataW.trod enc P W base spare held n x.type ((cells.drop x.offset).take (P.cellsOf x.type))=some y)->Cs cs ((cells.drop k).take cs.length)
 | [],k,cs,h,_=>by cases h;exact trivial
 | x::u,k,cs,h,J=>by
  unfold ss at h;cases C:Nat.beq x.offset k with
  | false=>rw[C] at h;cases h
  | true=>
   rw[C] at h;cases E:f x.type with
   | none=>rw[E] at h;cases h
   | some a=>
    rw[E] at h;dsimp only [_root_.cond_true] at h;cases G:Nat.beq (P.cellsOf x.type) a.length with
    | false=>rw[G] at h;cases h
    | true=>
     rw[G] at h;obtain⟨b,U,rfl⟩:=yS.1 h;have ih:=qr5 (cells:=cells) I U λz V=>J z (zN _ V);obtain⟨n,y,R⟩:=J x HQ;rw[yV C,yV G] at R;rw[zF,List.take_add,xC];exact (I _ _ E _ _ _ R).te ih
def qr6:∀(d:Nat) (t:If) (cs:List Cell),tM P d t=some cs->∀n vs y,DataW.trod enc P W base spare held n t vs=some y->Cs cs vs
 | 0,_,_,h,_,_,_,_=>nomatch h
 | d+1,t,cs,h,n,vs,y,u=>by
  unfold tM at h;split at h
  ·next k hu=>
   cases h;obtain⟨m,C,_,R⟩:=DataW.trod_int hu u;rw[C];exact⟨⟨m,rfl,qBe R⟩,trivial⟩
  ·next hu=>
   cases h;obtain⟨m,C,_⟩:=DataW.trod_bool hu u;rw[C];exact⟨⟨m,rfl,trivial⟩,trivial⟩
  ·next fs hu=>
   split at h
   ·next cs' hd=>
    cases E:Nat.beq (P.cellsOf t) cs'.length with
    | false=>rw[E] at h;cases h
    | true=>
     rw[E] at h;cases h;obtain⟨U,m,_,_,I,V,hf⟩:=DataW.trod_struct hu u
     have:=qr5 (cells:=vs) (qr6 d) hd λx hx=>by obtain⟨i,hi,rfl⟩:=List.getElem_of_mem hx;have G:i<fs.size:=(oP hi);have J:=hf i fs[i] (by simp[G]);rw[zA (show i<U.length by omega)] at J;exact⟨_,_,by simpa using J⟩
     rw[xE,zS (by have:=yV E;omega)] at this;exact this
   cases h
  cases h
def tq (o:Ov):List Ie:=[.b (rP o)]++(HL.mk iJ (uz o)++(HL.mk ls (sY o).1++([.w (sY o).2.1,.w (sY o).2.2]++([.w (tE o).1,.w (tE o).2,.b (yh o)]++(HL.mk iI (qy o)++(HL.mk mt (zn o)++[.w (ux o)]))))))
abbrev opC:List Cell:=[.b]++(iJ++(ls++(df++([.w,.w,.b]++(iI++(mt++[.w]))))))
def DJ(o:Ov):(tq o).length=52:=rfl
def qBk{vs:List Ie}(h:Cs opC vs):∃o:Ov,vs=tq o/\ru o:=by obtain⟨u1,v1,rfl,C,h⟩:=Cs.split (a:=[.b]) h;obtain⟨u2,v2,rfl,E,h⟩:=Cs.split (a:=iJ) h;obtain⟨u3,v3,rfl,G,h⟩:=Cs.split (a:=ls) h;obtain⟨u4,v4,rfl,I,h⟩:=Cs.split (a:=df) h;obtain⟨u5,v5,rfl,J,h⟩:=Cs.split (a:=[.w,.w,.b]) h;obtain⟨u6,v6,rfl,R,h⟩:=Cs.split (a:=iI) h;obtain⟨u7,v7,rfl,U,V⟩:=Cs.split (a:=mt) h;obtain⟨d,rfl,fd⟩:=C.hl;obtain⟨a,rfl,fa⟩:=E.hl;obtain⟨t,rfl,ft⟩:=G.hl;obtain⟨⟨p0,p1⟩,rfl,fp⟩:=I.hl;obtain⟨⟨i0,i1,x⟩,rfl,u⟩:=J.hl;obtain⟨e,rfl,fe⟩:=R.hl;obtain⟨r,rfl,fr⟩:=U.hl;obtain⟨n,rfl,fn⟩:=V.hl;exact⟨(d,a,(t,(p0,p1)),(i0,i1),x,e,r,n),rfl,⟨fd,fa,⟨ft,fp⟩,⟨u.1,u.2.1⟩,u.2.2,fe,fr,fn⟩⟩
end
section
section
variable {H:Type} {enc:If×Ie->H} {P:Ig} {W:Ic} {base:Nat} {spare:Nat->Bool} {held:Bool}
abbrev OPT:If:=81
def qzT:∀n u y,DataW.trod enc Tryz.prog W base spare held n OPT u=some y->∃o:Ov,u=tq o/\ru o:=λn u y h=>qBk (qr6 5 OPT opC oK n u y h)
end
end
end
section
open Go Go.Pt List
open Go.IntKind (wrap)
open Classical
section
variable {α:Type} {p:α->Bool} {x:α} {l A B:List α} {lt:α->α->Prop}
end
def Ft{P:Ig}{f:If->Ie->Ie->Option Bool}{C:Array Ie}(u:∀t x r,f t x x=some r->r=true):∀ {E:List Field} {r:Bool},p4 P f C C E=some r->r=true
 | [],r,h=>by simp[p4] at h;exact h
 | x::E,r,h=>by simp only[p4] at h;split at h;split at h;rename_i a b I G;rw[I] at G;cases G;split at h;rename_i U q J R;cases h;rw[u _ _ _ J,Ft u R];rfl;cases h;cases h;exact Ft u h
def qqi{P:Ig}{f:If->Ie->Ie->Option Bool}{e n:Nat}{u:Array Ie}(C:∀t x r,f t x x=some r->r=true):∀ {is:Ik} {r:Bool},qV P f e n u u is=some r->r=true
 | [],r,h=>by simp[qV] at h;exact h
 | i::is,r,h=>by simp only[qV] at h;split at h;rename_i a b G E;rw[G] at E;cases E;split at h;rename_i R q I J;cases h;rw[C _ _ _ I,qqi C J];rfl;cases h;cases h
def Gb{P:Ig}:∀(d:Nat) (t:If) (x:Ie) (r:Bool),ug P d t x x=some r->r=true
 | 0,_,_,_,h=>nomatch h
 | d+1,t,x,r,h=>by
  unfold ug at h;split at h
  ·next heq=>cases heq;cases h;exact beq_self_eq_true _
  ·next heq=>cases heq;simp at h;exact h
  ·next heq=>cases heq;cases h;exact beq_self_eq_true _
  ·next heq=>
   cases heq;cases u:P.stoodInHeld t with
   | true=>rw[u] at h;cases h
   | false=>rw[u] at h;exact Ft (Gb d) h
  ·next heq=>
   cases heq;next _ e _ _=>
   cases u:m7 P e with
   | false=>rw[u] at h;cases h
   | true=>rw[u] at h;exact qqi (Gb d) h
  cases h
def eqS{P:Ig}{t:If}{x y:Operand}{cs:Array Ie}{w:Ic}{K:Bool->Prop}(d:Nat)(C:d<=10000)(h:(ug P d t (.agg cs) (.agg cs)).isSome=true)(E:P.eqGuardType P.depth t=false)(k:K true): eW [gU.one Cell.bool] (λw'=>(do eqGuard .eql t x y (.agg cs) (.agg cs);binOp .eql t (.agg cs) (.agg cs):Sem Ie).run P w') w K:=by
 obtain⟨r,u⟩:=Option.isSome_iff_exists.1 h;have:=Gb _ _ _ _ u;subst this;exact Hi d C true u E k
end
end Go.Proofs.YtpcmehldpoljfaaGreatDoor
namespace Go.Pt
section
open Go
end
end Go.Pt
namespace Go.Proofs.YtpcmehldpoljfaaGreatDoor
section
open Go Go.Pt List
open Classical
attribute [local irreducible] ld dL gZ mP i3 fc st new idx i4 jg fB jk iO lS gB nn call dZ inv run eW iC join loop held ext jU eH mv mp mA IntKind.wrap
structure HD (yield:Ie) (Yc:Ik) (wb:Ic) (L:List (HL mt)) (I:Nat->WP) (E:WP):Prop where
 stay:∀ i W W' Z,I i W->Fr Z W W'->(∀ b∈Z,wb.heap.size<=b)->I i W'
 Hu:∀ W W' Z,E W->Fr Z W W'->(∀ b∈Z,wb.heap.size<=b)->E W'
 take:∀ i (hi:i<L.length) W (K:Bool->WP),I i W->wb.heap.size<=W.heap.size->(∀ W',Fr Yc W W'->I (i+1) W'->K true W')->(∀ W',Fr Yc W W'->E W'->K false W')->dZ Tryz.prog yield [.agg (HL.mk mt L[i]).toArray] dj W K
end
section
open Go Go.Pt List
open Go.IntKind (wrap)
open Classical
attribute [local irreducible] ld dL gZ mP i3 fc st new idx i4 jg fB jk iO lS gB nn call dZ inv run eW iC join loop held ext jU eH mv mp mA IntKind.wrap
variable {K:IC->WP}
def qqB{w:Ic}{n:Nat}(Y:Ik)(C:∀b∈Y,b<w.heap.size)(hY:HG∉Y)(E:Hv w)(G:8<=n)(I:n<=4096)(kk:∀sb pb dbk FD F D w',nJ w' Y sb dbk pb FD F D (ki n) ((n-2)-eK (n-2)) (n,1) (λ_=>([],[]))->Made D n->HG∉FD->sb∉FD->Fr [] w w'->(∀b∈sb::(FD++F),w.heap.size<=b)->K (pW sb,pW pb) w'): cW 32 [.i n] dz w K:=by exact qhM<|qxq (n:=n) Y C hY E G I λdbk pb FD F D w1 u J R U=>HM rfl<|qtc<|oB (oE [] w1) λr w2 e2 V o=>kk r pb dbk FD F D w2 ⟨u.q7 V,od.made G I u.wf J,o.at (i:=0) rfl,λh=>by have:=u.x8.lt r h;omega⟩ J (λh=>by have:=U HG (zH _ h);have:=E.lt;omega) (λh=>by have:=u.sP r (by simp[Zo,h]);omega) (R.trans V) λb hb=>(zG.1 hb).elim (λe=>by rw[e,e2];exact R.size) (U b)
structure mZ (w0 W:Ic) (Y:Ik) (L:Ip) (sb:Nat) (F:Ik) (c:Nat) (bs br:Bk) (ri:oz):Prop where
 own:dR (fk L) W W L
 sB:SB W (fk L++Y) sb F c bs
 rb:RB (fk L++F) W ri br
 fr:Fr [] w0 W
 nL:∀ x∈fk L,w0.heap.size<=x
 nF:∀ x∈F,w0.heap.size<=x
 ns:w0.heap.size<=sb/\sb∉fk L
section
variable {w0 W w':Ic} {Y F F':Ik} {L L':Ip} {sb c:Nat} {bs br bs' br':Bk} {ri r':oz}
def mZ.lt(h:mZ w0 W Y L sb F c bs br ri):∀x∈fk L++F,x<W.heap.size:=λx u=>(zD.1 u).elim (xj h.own x) (h.sB.flt x)
def mZ.J0(h:mZ w0 W Y L sb F c bs br ri)(o:dR (fk L) W w' L'):mZ w0 w' Y L' sb F c bs br ri where
 own:=o.lz
 sB:=h.sB.GW h.ns.2 o
 rb:=h.rb.q8 (o.fr.mono λx u _=>zH _ u) λx u=>(zD.1 u).elim (λu=>by obtain⟨p,C,rfl⟩:=mem_map.1 u;exact (o.own p C).imp (zH _) id) λu=>.inl (zI _ u)
 fr:=h.fr.j8 o.fr λx u=>.inr (h.nL x u)
 nL:=λx u=>by obtain⟨p,C,rfl⟩:=mem_map.1 u;exact (o.own p C).elim (h.nL _) (zL h.fr.size)
 nF:=h.nF
 ns:=⟨h.ns.1,λu=>by
  obtain⟨p,C,e⟩:=mem_map.1 u;rcases o.own p C with E|E;exact h.ns.2 (by rw[<- e];exact E);have:=h.sB.lt;omega⟩
def mZ.sub(h:mZ w0 W Y L sb F c bs br ri)(u:L'.Sublist L):mZ w0 W Y L' sb F c bs br ri where
 own:=(h.own.sub u).lz
 sB:=h.sB.y0 λb C=>(zD.1 C).elim (λC=>zH _ ((u.map _).subset C)) (zI _)
 rb:=h.rb.q8 (.refl _ _) λx E=>.inl ((zD.1 E).elim (λC=>zH _ ((u.map _).subset C)) (zI _))
 fr:=h.fr
 nL:=λx E=>h.nL x ((u.map _).subset E)
 nF:=h.nF
 ns:=⟨h.ns.1,λE=>h.ns.2 ((u.map _).subset E)⟩
def mZ.nG(h:mZ w0 W Y L sb F c bs br ri)(f:Fr [] W w')(u:RB (fk L++F) w' r' br'):mZ w0 w' Y L sb F c bs br' r':=
 ⟨(h.own.q7 f).lz,h.sB.q7 f,u,h.fr.trans f,h.nL,h.nF,h.ns⟩
def mZ.q7(h:mZ w0 W Y L sb F c bs br ri)(f:Fr [] W w'):mZ w0 w' Y L sb F c bs br ri:=h.nG f (h.rb.q7 f)
def mZ.jP(h:mZ w0 W Y L sb F c bs br ri)(C:SB w' (fk L++Y) sb F' c bs')(s:mU F W F' w'):mZ w0 w' Y L sb F' c bs' br ri where
 own:=h.sB.own h.own s
 sB:=C
 rb:=h.rb.q8 (s.fr.mono λx u _=>zI _ u) λx u=>(zD.1 u).elim (λu=>.inl (zH _ u)) λu=>(s.new x u).imp (zI _) id
 fr:=h.fr.j8 s.fr λx u=>.inr (h.nF x u)
 nL:=h.nL
 nF:=λx u=>(s.new x u).elim (h.nF x) (zL h.fr.size)
 ns:=h.ns
end
abbrev yz:oz:=(dH,dH,dH,dH,dH,dH,dH,0,false,dH)
def qA8(S:Ik)(w:Ic)(q:Nat×Nat×Gh):RB S w yz (wX q):=⟨.nil _ _ _ _,.nil _ _ _ _,.nil _ _ _ _,.nil _ _ _ _,.nil _ _ _ _,.nil _ _ _ _,.nil _ _ _ _,⟨rfl,rfl⟩,[],zM _,.nil _ _ _ _⟩
def mZ.start{w0 w w':Ic}{Y:Ik}{L:Ip}{sb dbk pb c:Nat}{FD F:Ik}{D:dJ}{M:dV}{q:Iu}(o:dR [] w0 w L)(h:nJ w' (fk L++Y) sb dbk pb FD F D M c q λ_=>([],[]))(E:c<=100000)(G:q.2<=150)(I:HG∉FD)(J:sb∉FD)(f:Fr [] w w')(u:∀b∈sb::(FD++F),w.heap.size<=b):mZ w0 w' Y L sb (FD++F) c (wX (q.1,q.2,pb,D,lp M)) (wX (q.1,q.2,pb,D,lp M)) yz where
 own:=(o.q7 f).lz
 sB:=⟨pb,dbk,FD,F,D,M,_,rfl,h,I,J,qAN _,E,G,rfl⟩
 rb:=qA8 _ _ _
 fr:=o.fr.trans f
 nL:=λx C=>by obtain⟨p,R,rfl⟩:=mem_map.1 C;exact (o.own p R).elim (λh=>nomatch h) id
 nF:=λx C=>zL o.fr.size (u x (zN _ C))
 ns:=⟨zL o.fr.size (u sb oL),λU=>by have:=xj o sb U;have:=u sb oL;omega⟩
end
section
open Go Go.Pt List
open Go.IntKind (wrap)
open Classical
section
variable {w w' w0 W:Ic} {Y F F' S:Ik} {L L':Ip} {sb pb c i:Nat} {b b' br br':Bk} {r ri r':oz}
def SB.sbF(h:SB w Y sb F c b):sb∉F:=by obtain⟨pb,dbk,FD,I,D,M,Fo,rfl,C,E,u,J,R,U⟩:=h;exact λG=>(zD.1 G).elim u C.out
def SB.om{o:Obj}(h:SB w Y sb F c b)(u:w.heap[sb]?=some o)(s:mU F w F' w'):w'.heap[sb]?=some o:=by rw[s.fr.block sb (eX u) h.sbF];exact u
def RB.wP(h:RB S w r b):RB S w r b.wP:=⟨h.acc,h.jB,h.jT,h.due,h.k6,h.lg,h.jn,h.told,h.gone⟩
def RB.jL(h:RB S w r b)(n:Int):RB S w (r.1,r.2.1,r.2.2.1,r.2.2.2.1,r.2.2.2.2.1,r.2.2.2.2.2.1,r.2.2.2.2.2.2.1,n,true,r.2.2.2.2.2.2.2.2.2) (b.jL n):=
 ⟨h.acc,h.jB,h.jT,h.due,h.k6,h.lg,h.jn,⟨rfl,rfl⟩,h.gone⟩
structure pE (w0 W:Ic) (Y:Ik) (L:Ip) (sb pb:Nat) (F:Ik) (b:Bk) (ri:oz):Prop where
 st:∃ g,mZ w0 W Y L sb F 600 (b.gs g) b ri
 cell:W.heap[sb]?=some (.c #[pP pb] Aj)
def pE.q7(h:pE w0 W Y L sb pb F b ri)(f:Fr [] W w'):pE w0 w' Y L sb pb F b ri:=⟨h.st.imp λg h=>h.q7 f,by rw[f.block sb (eX h.cell) λh=>nomatch h];exact h.cell⟩
def pE.J0(h:pE w0 W Y L sb pb F b ri)(o:dR (fk L) W w' L'):pE w0 w' Y L' sb pb F b ri:=⟨h.st.imp λg h=>h.J0 o,h.st.elim λg u=>o.pJ h.cell u.ns.2⟩
def pE.sub(h:pE w0 W Y L sb pb F b ri)(u:L'.Sublist L):pE w0 W Y L' sb pb F b ri:=⟨h.st.imp λg h=>h.sub u,h.cell⟩
def pE.own(h:pE w0 W Y L sb pb F b ri):dR (fk L) W W L:=h.st.elim λg h=>h.own
def pE.fr(h:pE w0 W Y L sb pb F b ri):Fr [] w0 W:=h.st.elim λg h=>h.fr
def nJ.less{dbk u:Nat}{FD:Ik}{D:dJ}{M:dV}{Q:Iu}{Fo:ka}(h:nJ w Y sb dbk pb FD F D M c Q Fo)(C:u<=c):nJ w Y sb dbk pb FD F D M u Q Fo:=⟨h.tw,⟨h.st.J0,h.st.J1,zL C h.st.many⟩,h.cell,h.out⟩
def pE.start{dbk:Nat}{FD:Ik}{D:dJ}(o:dR [] w0 w L)(h:nJ w' (fk L++Y) sb dbk pb FD F D (ki 900) ((900-2)-eK (900-2)) (900,1) λ_=>([],[]))(u:HG∉FD)(C:sb∉FD)(f:Fr [] w w')(E:∀b∈sb::(FD++F),w.heap.size<=b): ∃g,pE w0 w' Y L sb pb (FD++F) (wX (900,1,g)) yz:=
 ⟨_,⟨_,mZ.start o (h.less (by have e:eK (900-2)=8:=rfl;omega)) oM oM u C f E⟩,h.cell⟩
def Bt.room{n:Nat}(h:Bt n i b)(hi:i<=60):3*(b.size+3)+1<=600/\3*b.size+1<=600/\b.cm.2.1<=100:=by
 have:=h.size;have:=h.wP;exact⟨oJ,oJ,oJ⟩
def Bt.BA(h:Bt 900 i b)(hi:i<=60):600+eK b.cm.1+b.size+2<=b.cm.1/\eK b.cm.1+b.size<=600:=by
 have:=h.size;have e:eK 900=8:=rfl;rw[h.blocks,e];exact⟨oJ,oJ⟩
end
end
section
open Go Go.Pt List
open Go.IntKind (wrap)
open Classical
attribute [local irreducible] ld dL gZ mP i3 fc st new idx i4 jg fB jk iO lS gB nn call dZ inv run eW iC join loop held ext jU eH mv mp mA IntKind.wrap
abbrev BOT:If:=34
def qp9{d:HL iI}{l:List (HL iI)}:((gH d l).length<l.length)↔∃x∈l,kB x=kB d:=by have h:=length_filter_lt_length_iff_exists (l:=l) (p:=λx=>decide (kB x≠kB d));unfold gH;rw[h];simp
section
variable {w0 w w':Ic} {Y F:Ik} {L:Ip} {sb pb i:Nat} {b:Bk} {ri:oz} {o:Ov}
def qxX{K:oz×Bool->WP}(h:pE w0 w Y L sb pb F b ri)(ho:ru o)(ht:Bt 900 i b)(hi:i<=60)(G:∀F' r' w',pE w0 w' Y L sb pb F' (nm b o) r'->K (r',true) w'): cW 33 [dG sb,dG pb,HJ gg ri,.agg (tq o).toArray] [.agg gg,.one .bool] w K:=by
 refine qhN ?_;obtain⟨q1,q2,q3⟩:=ht.room hi;have ae:b.size<=100000:=oJ;have ao:=ht.BA hi;refine oB h.own λr1 w1 _ _ o1=>oB o1 λr3 w2 _ _ o1=>oB o1 λr5 w3 _ _ o1=>?_;have h:=h.J0 o1;have hd:(0:Int)<=rP o/\rP o<=255:=ho.d;have hm:Int.tmod (rP o) 8=rP o%8:=Int.tmod_eq_emod_of_nonneg hd.1;refine Ii h.own 1 rfl (rP o) ?_;rw[hm];unfold nm at G;have g:=(Fr.refl [] w3).drew;obtain⟨⟨gh,h⟩,hp⟩:=h;have cf:∀ {w4 w5:Ic},w4.heap[sb]?=some (.c #[pP pb] Aj)->Fr [] w4 w5->w5.heap[sb]?=some (.c #[pP pb] Aj):=λh f=>by rw[f.block sb (eX h) λh=>nomatch h];exact h
 have J:∀ {F':Ik} {w4:Ic} {r':oz} {bs br:Bk} {L2:Ip} {cs:Array Ie} {T5:If},mZ w0 w4 Y ((r5,.c cs T5)::L2) sb F' 600 bs br r'->w4.heap[sb]?=some (.c #[pP pb] Aj)->(∃g,bs=br.gs g)->L.Sublist L2->cs.size=10->(∀F' r' w',pE w0 w' Y L sb pb F' br r'->K (r',true) w')->Pt.st (dg r5) (HL.mk gg r') w4 λw5=>dL gg (dg r5) w5 λt=>K (t,true) w5:=λ{F' w4 r' bs br L2 cs T5} h hp C hs hz G=>by obtain⟨g,rfl⟩:=C;exact h.own.st' 0 rfl _ (k7 (by rw[hz];rfl)) rfl (by rw[hz];exact zM _) λw5 o5 f5=>Ij o5 0 rfl r' (G F' r' w5 ⟨⟨g,(h.J0 o5).sub (hs.cons _)⟩,o5.pJ hp h.ns.2⟩)
 have C:=h.q7 g;have ab:=cf hp g;have R:L.Sublist ([(r3,Obj.cells (tq o).toArray 81 (0,0)),(r1,Obj.cells (HL.mk gg ri).toArray BOT (0,0))]++L):=.cons _ (.cons _ (.refl _));refine dX (λE=>?_) λE=>?_;rw[iP (yO.1 E)] at G;refine Ij C.own 2 rfl ri (Ij C.own 1 rfl (uz o) (Ij C.own 1 rfl (uz o) (qvc C.rb ae C.lt λr' w4 h4 U=>?_)));have h:=C.nG U h4;exact ik (h.own.cells 1) (G8 h.sB q2 ho.a λF5 w5 h5 V=>J (h.jP h5 V) (h.sB.om (cf ab U) V) ⟨gh,rfl⟩ R rfl G);rw[iN (zR.1 E)] at G;refine dX (λE=>?_) λE=>?_;rw[iP (yO.1 E)] at G;refine Ij C.own 2 rfl ri (nP (C.own.at (i:=1) rfl) (pg (sY o)) rfl rfl (nP (C.own.at (i:=1) rfl) (pg (sY o)) rfl rfl (qvf C.rb ae C.lt λr' w4 h4 U=>?_)));have h:=C.nG U h4;exact ik (h.own.cells 1) (qnJ h.sB q1 ho.k λF5 w5 h5 V=>J (h.jP h5 V) (h.sB.om (cf ab U) V) ⟨gh,rfl⟩ R rfl G);rw[iN (zR.1 E)] at G;refine dX (λE=>?_) λE=>?_;rw[iP (yO.1 E)] at G;refine Ij C.own 2 rfl ri (Ij C.own 1 rfl (tE o) (Ii C.own 1 rfl (yh o) (Ij C.own 1 rfl (tE o) (Ii C.own 1 rfl (yh o) (qvg C.rb ae C.lt λr' w4 h4 U=>?_)))));have h:=C.nG U h4;exact ky (h.own.cell 1) (h.own.cells 1) (qvk h.sB q2 ho.i ho.s λF5 w5 h5 V=>J (h.jP h5 V) (h.sB.om (cf ab U) V) ⟨gh,rfl⟩ R rfl G);rw[iN (zR.1 E)] at G;refine dX (λE=>?_) λE=>?_;rw[iP (yO.1 E)] at G;refine Ij C.own 2 rfl ri (Ij C.own 1 rfl (qy o) (Ij C.own 1 rfl (qy o) (qvd (d:=qy o) C.rb ae C.lt λr' w4 h4 U=>?_)));have h:=C.nG U h4;exact ik (h.own.cells 1) (Cm h.sB q2 ho.u λF5 w5 h5 V=>J (h.jP h5 V) (h.sB.om (cf ab U) V) ⟨gh,rfl⟩ R rfl G);rw[iN (zR.1 E)] at G;refine dX (λE=>?_) λE=>?_;rw[iP (yO.1 E)] at G;refine Ij h.own 2 rfl ri (Ij h.own 1 rfl (qy o) (ql3 (d:=qy o) h.rb ae h.lt λr' w4 h4 U=>?_));have h:=h.nG U h4;have hp:=cf hp U;refine oB h.own λaP w5 _ _ o5=>o5.st' 0 rfl _ (k7 rfl) rfl (zM _) λw6 o6 _=>?_;have h':=h.J0 o6;have hp:=o6.pJ hp h.ns.2;refine vd (if ∃x∈b.due,kB x=kB (qy o) then 0 else 5:Int) w6 (λM hM=>?_) ?_;refine dX (λE=>?_) λE=>?_;rw[iP (qp9.1 (zC E))] at hM;exact hM;rw[iN λh=>zB E (qp9.2 h)] at hM;exact hM;have g6:=(Fr.refl [] w6).drew;have h:=h'.q7 g6;have hp:=cf hp g6;refine Ij h.own 0 rfl r' (Ij h.own 2 rfl (qy o) (ql4 (d2:=(qy o).2.2.1) (d3:=(qy o).2.2.2) h.sB q2 ho.u (λam F7 w7 h7 s7=>?_) λaj w7 f7=>?_));have am:∃x∈b.due,kB x=kB (qy o):=am;rw[iP am];have I:=h.jP h7 s7;exact ik (I.own.cells 0) (J (I.sub (.cons _ (.refl _))) (h.sB.om hp s7) ⟨gh,rfl⟩ R rfl G);have aj:∀x∈b.due,kB x≠kB (qy o):=aj;rw[iN λ⟨x,hx,e⟩=>aj x hx e];have e:=qtA (b:=b) (d:=qy o) aj;have I:=h.q7 f7;rw[e] at I G;exact ik (I.own.cells 0) (J (I.sub (.cons _ (.refl _))) (cf hp f7) ⟨gh,rfl⟩ R rfl G);rw[iN (zR.1 E)] at G;refine dX (λE=>?_) λE=>?_;rw[iP (yO.1 E)] at G;refine Ij C.own 2 rfl ri (Ij C.own 1 rfl (tE o) (Ij C.own 1 rfl (zn o) (Ij C.own 1 rfl (tE o) (Ij C.own 1 rfl (zn o) (qve C.rb ae C.lt λr' w4 h4 U=>?_)))));have h:=C.nG U h4;exact ky (h.own.cells 1) (h.own.cells 1) (qvj h.sB q2 ho.i ho.r λF5 w5 h5 V=>J (h.jP h5 V) (h.sB.om (cf ab U) V) ⟨gh,rfl⟩ R rfl G);rw[iN (zR.1 E)] at G;refine dX (λE=>?_) λE=>?_;rw[iP (yO.1 E)] at G;refine Ii h.own 1 rfl (ux o) (h.own.st' 2 rfl (HL.mk gg (ri.1,ri.2.1,ri.2.2.1,ri.2.2.2.1,ri.2.2.2.2.1,ri.2.2.2.2.2.1,ri.2.2.2.2.2.2.1,ux o,ri.2.2.2.2.2.2.2.2.1,ri.2.2.2.2.2.2.2.2.2)).toArray rfl rfl (zO rfl) λw4 o4 _=>o4.st' 2 rfl (HL.mk gg (ri.1,ri.2.1,ri.2.2.1,ri.2.2.2.1,ri.2.2.2.2.1,ri.2.2.2.2.2.1,ri.2.2.2.2.2.2.1,ux o,true,ri.2.2.2.2.2.2.2.2.2)).toArray rfl rfl (zO rfl) λw5 o5 _=>?_);have g5:=(Fr.refl [] w5).drew;have hp:=cf (o5.pJ hp h.ns.2) g5;have h:=(h.J0 o5).q7 g5;have h:=h.nG (.refl _ _) (h.rb.jL (ux o));refine Ij h.own 2 rfl (ri.1,ri.2.1,ri.2.2.1,ri.2.2.2.1,ri.2.2.2.2.1,ri.2.2.2.2.2.1,ri.2.2.2.2.2.2.1,ux o,true,ri.2.2.2.2.2.2.2.2.2) (Ii h.own 1 rfl (ux o) (ql5 h.sB q2 λF6 w6 h6 s6=>?_));have I:=h.jP h6 s6;exact ik (I.own.cells 2) (J I (h.sB.om hp s6) ⟨gh,rfl⟩ (.cons _ (.cons _ (.refl _))) rfl G);rw[iN (zR.1 E)] at G;refine Ij C.own 2 rfl ri (SB.nO C.sB ab q3 ao.1 ao.2 λF5 w5 g' h5 V=>?_);have I:=C.jP h5 V;exact ik (I.own.cells 2) (J (I.nG (.refl _ _) I.rb.wP) (C.sB.om ab V) ⟨g',rfl⟩ R rfl G)
end
end
section
open Go Go.Pt List
open Go.IntKind (wrap)
open Classical
variable {K:Option Addr×oz×Bool->WP}
def ovZ:Ov:=(0,qM,v8,(0,0),0,(0,0,0,0),AI,0)
def qxy:((Tryz.prog.info? 81).bind (·.zero)).map (λz=>z.cells.toList)=some (tq ovZ):=by kernel_rfl
attribute [local irreducible] ld dL gZ mP i3 fc st new idx i4 jg fB jk iO lS gB nn call dZ inv run eW iC join loop held ext jU eH mv mp mA IntKind.wrap
abbrev vX (r:oz):Obj:=HI gg r BOT
section
variable {w w':Ic} {s:Sl} {l:List Ov}
def qvt(E:Hv w)(G:ee tq 52 [] w s l)(I:∀o∈l,ru o)(hl:l.length<=60)(kk:∀sb pb F q ri w',q.1=900->q.2.1=1->pE w w' [] [] sb pb F (oc q l) ri->K (pW sb,ri,true) w'): cW 9 [s.v] [.one .ptr,.agg gg,.one .bool] w K:=by refine qhr ?_;have J:=G.1;refine oB (oE [] w) λR w1 e1 f1 o=>?_;have l1:=eX (o.at (i:=0) rfl);refine qqB (n:=900) [R] (λb hb=>by rw[zE.1 hb];exact l1) (λhm=>by have:=zE.1 hm;have:=E.lt;omega) (E.q7 o.fr) oM oM λsb pb dbk FD F D w3 U hM hg hd f3 n3=>HM rfl ?_;obtain⟨g,h⟩:=pE.start (Y:=[]) o U hg hd f3 n3;clear o U hM;refine oB h.own λr7 w4 _ _ o=>?_;have h:=h.J0 o;clear o;have hz:=qxy;refine iX (λx W=>∃i:Nat,∃F ri,x=i/\i<=l.length/\pE w W [] [(r7,vX ri),(R,vX yz)] sb pb F (oc (900,1,g) (l.take i)) ri) (λx _=>l.length-x.toNat) ⟨0,_,yz,rfl,yW _,h⟩ ?_;clear h;rintro x W ⟨i,F,ri,rfl,hi,h⟩ X hX;have ht:=Gg (q:=(900,1,g)) rfl i l hi I;refine dX (λC=>?_) λC=>?_;have u:i<l.length:=(by have:=zC C;omega);have hx:=zA u;refine ee.gW (G.q7 h.fr) DJ i rfl hx (oI h.own hz λap V _ o=>m8 (DJ _) (o.st' 0 rfl _ (k7 rfl) rfl (zM _) λw6 o _=>?_));have h:=h.J0 o;clear o;refine Ij h.own 1 rfl ri (nP (h.own.at (i:=0) rfl) (tq l[i]) rfl rfl (qxX h (I _ (zW u)) ht oJ λF' r' w7 h=>?_));refine oB h.own λaq w8 _ _ o=>o.st' 0 rfl _ (k7 rfl) rfl (zM _) λw9 o _=>HM rfl (Ij o 0 rfl r' (o.st' 2 rfl _ (k7 rfl) rfl (zM _) λwa o _=>?_));have h:=h.J0 o;rw[gi _ oJ];refine hX _ _ ⟨i+1,F',r',rfl,u,?_⟩ oJ;rw[yF u,qnK];exact h.sub (.cons _ (.cons _ (.refl _)));have u:i=l.length:=(by have:=zB C;omega);subst u;rw[xY] at h;have h:=h.q7 (Fr.refl [] W).drew;refine Ij h.own 0 rfl ri (h.own.st' 1 rfl _ (k7 rfl) rfl (zM _) λV o _=>Ij o 1 rfl ri ?_);exact kk sb pb F (900,1,g) ri V rfl rfl ((h.J0 o).sub (nil_sublist _))
def qn2{K:Bool->WP}(I:Hv w)(J:∀w',Fr [] w w'->K true w'):cW 8 [] dj w K:=by refine qhs ?_;unfold qdL;refine qqB (n:=40) [] (λ_ h=>nomatch h) (λh=>nomatch h) I oM oM λsb pb dbk FD F D w1 R hM U V f1 n1=>?_;have hn:eK (40-2)=1:=rfl;have h:=mZ.start (Y:=[]) (oE [] w) R oJ oM U V f1 n1;generalize ((40,1).1,(40,1).2,pb,D,lp (ki 40))=q at h;have E:∀ {a b:Int},nf a->nf b->jx iI (a,b,0,0):=λha hb=>⟨xp ha,xp hb,sq,sq⟩;refine gP (λx w'=>x=false/\∃F br,mZ w w' [] [] sb F ((40-2)-eK (40-2)) (((wX q).i9 (9,2,0,0)).i9 (5,3,0,0)) br yz) ?_ ?_;refine HM rfl (Cm h.sB (by show 3*0+1<=_;omega) (E ⟨oM,oM⟩ ⟨oM,oM⟩) λF2 w2 h2 s2=>HM rfl ?_);have u:=h.jP h2 s2;exact Cm u.sB (by show 3*1+1<=_;omega) (E ⟨oM,oM⟩ ⟨oM,oM⟩) λG w3 h3 s3=>⟨rfl,G,_,u.jP h3 s3⟩;rintro x w3 ⟨rfl,G,br,h⟩;have e:mc (((wX q).i9 (9,2,0,0)).i9 (5,3,0,0)).due 9 1=[(5,3,0,0)]:=oK;refine HM rfl (qt7 h.sB (xp ⟨oM,oM⟩) (G4 (G4 .nil)) (by show 2<=_;omega) λs B w4 C f4 nB _=>?_);rw[e] at C;have hl:s.len=1:=C.len;refine HK (by rw[hl];rfl) (ee.rK (y:=(5,3,0,0)) (C.jz BJ (S:=[]) λ_ _ h=>nomatch h) 0 rfl rfl rfl rfl ?_);exact eqS (t:=BY) 3 oM oK oK (J w4 (h.fr.trans f4))
end
end
section
open Go Go.Pt List
open Go.IntKind (wrap)
open Classical
attribute [local irreducible] ld dL gZ mP i3 fc st new idx i4 jg fB jk iO lS gB nn call dZ inv run eW iC join loop held ext jU eH mv mp mA IntKind.wrap
abbrev wg:If:=64
section
variable {w w':Ic} {s:Sl} {l:List Ov}
end
end
section
open Go Go.Pt List
open Go.IntKind (wrap)
open Classical
def qBh(x:Int):nf (wrap .u64 x):=by have h:wrap .u64 x=x%18446744073709551616:=(by unfold wrap;have:(IntKind.u64.signed)=false:=rfl;simp only[this,Bool.false_and,Bool.false_eq_true,if_false];rfl);rw[h];exact⟨Int.emod_nonneg _ oM,Int.emod_lt_of_pos _ oM⟩
attribute [local irreducible] ld dL gZ mP i3 fc st new idx i4 jg fB jk iO lS gB nn call dZ inv run eW iC join loop held ext jU eH mv mp mA IntKind.wrap
def qrQ{w:Ic}{Y F:Ik}{sb c:Nat}{b:Bk}{d:HL iI}{K:Int->WP}(h:SB w Y sb F c b)(u:3*b.size+1<=c)(C:jx iI d)(E:∀x∈b.due,kB x≠kB d)(G:∀w',Fr [] w w'->K 5 w'): cW 25 [dG sb,.agg #[.w d.1,.w d.2.1,.w d.2.2.1,.w d.2.2.2]] di w K:=
 ql4 h u C (λ⟨x,I,e⟩=>absurd e (E x I)) λ_=>G
def SB.rV{w:Ic}{Y F:Ik}{sb c:Nat}{b:Bk}(h:SB w Y sb F c b):∃T,Hb T b:=by obtain⟨pb,dbk,FD,G,D,M,Fo,rfl,I,u,C,E,J,R⟩:=h;exact⟨_,E⟩
section
variable {w w':Ic} {s:Sl} {l:List Ov}
def qrd{K:Bool->WP}(hv:Hv w)(hr:ee tq 52 [] w s l)(ho:∀o∈l,ru o)(kk:∀w',Fr [] w w'->K true w'): cW 6 [s.v] dj w K:=by
 refine qeP ?_;have bj:=hr.1;refine dX (λ_=>qn2 hv kk) λE=>?_;have hl:l.length<=60:=(by have:=zB E;omega);refine qvt hv hr ho hl λsb pb F q ri w1 q1 q2 h=>?_;have ht:=Gg q2 l.length l (zM _) ho;rw[xY] at ht;have aI:=ht.size;have an:=qwF (q:=q) l;refine oB h.own λr5 w2 _ _ o=>o.st' 0 rfl _ (k7 rfl) rfl (zM _) λw3 o _=>HM rfl ?_;have h:=h.J0 o;clear o;obtain⟨⟨g,h⟩,_⟩:=h;generalize oc q l=b at h ht aI an;have bk:(b.gs g).size<=180:=(by show b.size<=_;omega);refine qnI h.sB λw4 f4=>EP (h.sB.q7 f4) ht.last λw5 f5=>?_;have h:=h.q7 (f4.trans f5);refine oB h.own λG w6 _ _ o=>o.st' 0 rfl _ (k7 rfl) rfl (zM _) λw7 o _=>?_;have h:=h.J0 o;clear o;refine qym h.sB λkb w8 hm f8=>?_;have h:=h.q7 f8;have af:nf (wrap .u64 (b.last.getD 0+1)):=qBh _;have ao:jx iJ ((3,3,0,0,0,0,0,0,0,0,0,0,0,0,0):HL iJ):=⟨xp (x:=3) ⟨oM,oM⟩,xp (x:=3) ⟨oM,oM⟩,qyK.2.2⟩;refine gP (λx w'=>x=false/\∃F',mZ w w' [] [(G,HI c8 (nQ b) wg),(r5,vX ri)] sb F' 600 (b.gs g) b ri) ?_ ?_;refine ql5 h.sB oJ λF1 w9 h9 s9=>HM rfl ?_;have k9:=h.jP h9 s9;have m9:=hm.stp s9;refine G8 (a:=(3,3,0,0,0,0,0,0,0,0,0,0,0,0,0)) k9.sB (by have:=Bk.nj (b:=b.gs g) (x:=wrap .u64 ((b.gs g).last.getD 0+1));omega) ao λF2 bC aJ ap=>HM rfl ?_;have aq:=k9.jP aJ ap;have aK:=m9.stp ap;refine EP aq.sB (λn hn=>by cases hn;exact af) λbE ar=>HM (by show (!(wrap .u64 ((b.gs g).last.getD 0+1)==wrap .u64 ((b.gs g).last.getD 0+1)))=false;rw[beq_self_eq_true];rfl) ?_;have au:=aq.q7 ar;exact qyl au.sB (aK.q7 ar) (λ_ h=>h) rfl λF3 aL aM aN=>⟨rfl,F3,au.jP aM aN⟩;rintro x aL ⟨rfl,F3,h⟩;refine HM rfl ?_;have aO:=qxy;have aP:=A3;refine iX (λx W=>∃(i:Nat) (F:Ik) (b':Bk),x=i/\i<=l.length/\mZ w W [] [(G,HI c8 (nQ b) wg),(r5,vX ri)] sb F 600 b' b ri/\rI b b') (λx _=>l.length-x.toNat) ⟨0,F3,b.gs g,rfl,yW _,h,⟨rfl,rfl,rfl,rfl,rfl,rfl,rfl,rfl⟩⟩ ?_;clear h hm;rintro x W ⟨i,F,b',rfl,hi,h,u⟩ X hX;have J:=u.size;refine dX (λE=>?_) λE=>?_;have C:i<l.length:=(by have:=zC E;omega);have I:=zA C;have R:=ho _ (zW C);generalize l[i]=op at I R;refine ee.gW (hr.q7 h.fr) DJ i rfl I (oI h.own aO λaQ bG _ o=>m8 (DJ _) (o.st' 0 rfl _ (k7 rfl) rfl (zM _) λbH o _=>?_));have h:=h.J0 o;clear o;refine Ij h.own 0 rfl (kr (uz op)) (qzK h.sB ⟨R.a.1,R.a.2.1⟩ λbI aR=>?_);have h:=h.q7 aR;obtain⟨T,hb⟩:=h.sB.rV;refine oB h.own λbJ bK _ _ o=>o.st' 0 rfl _ (k7 rfl) rfl (zM _) λbL o _=>?_;have h:=h.J0 o;clear o;refine gP (λx W'=>x=false/\∃F' U,mZ w W' [] [(aQ,.c (tq op).toArray 81),(G,HI c8 (nQ b) wg),(r5,vX ri)] sb F' 600 U b ri/\rI b U) ?_ ?_;refine dX (λE=>?_) λE=>?_;obtain⟨a,ha⟩:=Option.isSome_iff_exists.1 E;have aT:=List.find?_some ha;have aU:=hb.acc.2 a (mem_of_find?_eq_some ha);have ea:(mK b' ((kr (uz op)).1,(kr (uz op)).2)).getD qM=a:=(by rw[ha];rfl);refine oC h.own 0 rfl a (by rw[ea];rfl) (G8 h.sB oJ aU λF5 bN aW aX=>⟨rfl,F5,_,(h.jP aW aX).sub (.cons _ (.refl _)),u.kO ?_⟩);rw[show kr a=kr (uz op) from zC aT];exact ha;exact⟨rfl,F,b',h.sub (.cons _ (.refl _)),u⟩;clear h u J hb;rintro x bO ⟨rfl,F5,U,h,u⟩;have J:=u.size;refine HM rfl (Ij h.own 0 rfl (pV (sY op)) (qzL h.sB ⟨R.k.1.1,R.k.1.2.1⟩ λbP aY=>?_));have h:=h.q7 aY;obtain⟨T2,hb⟩:=h.sB.rV;refine oI h.own aP λbQ bR _ o=>m8 (qd _) (o.st' 0 rfl _ (k7 rfl) rfl (zM _) λbS o _=>?_);have h:=h.J0 o;clear o;refine gP (λx W'=>x=false/\∃F' U,mZ w W' [] [(G,HI c8 (nQ b) wg),(r5,vX ri)] sb F' 600 U b ri/\rI b U) ?_ ?_;refine dX (λE=>?_) λE=>?_;obtain⟨k,hk⟩:=Option.isSome_iff_exists.1 E;have aZ:=List.find?_some hk;have a0:=hb.jB.2 k (mem_of_find?_eq_some hk);have ek:(mD U ((pV (sY op)).1,(pV (sY op)).2)).getD v8=k:=(by rw[hk];rfl);refine nP (h.own.at (i:=0) rfl) (pg k) (qd k) (by rw[ek];rfl) (qnJ h.sB oJ a0 λF6 bU a2 a3=>⟨rfl,F6,_,(h.jP a2 a3).sub (.cons _ (.cons _ (.refl _))),u.kG an ?_⟩);rw[show pV k=pV (sY op) from zC aZ];exact hk;exact⟨rfl,F5,U,h.sub (.cons _ (.cons _ (.refl _))),u⟩;clear h u J hb;rintro x bV ⟨rfl,F6,b3,h,u⟩;rw[gi _ oJ];exact HM rfl (hX _ _ ⟨i+1,F6,b3,rfl,C,h,u⟩ oJ);clear hX;have ax:=h.sB.flt;refine qt7 h.sB (xp ⟨oM,oM⟩) (by rw[u.due];exact ht.dus) oJ λay bX bY V a4 a5 ac=>?_;rw[u.due] at V ac;have h:=h.q7 a4;have ad:∀d∈mc b.due 18446744073709551615 100,d∈b.due:=λd hd=>(mem_filter.1 (yU hd)).1;have a6:(mc b.due 18446744073709551615 100).length<=100000:=by
  have:=qyH (l:=b.due) (J0:=18446744073709551615) (most:=100);have:b.due.length<=b.size:=(by unfold Bk.size;omega);omega
 generalize mc b.due 18446744073709551615 100=dl at V ad a6;have b0:=V.len;refine iX (λx W=>∃(i:Nat) (F:Ik) (b':Bk),x=i/\i<=dl.length/\mZ w W [] [(G,HI c8 (nQ b) wg),(r5,vX ri)] sb F 600 b' b ri/\rI b b'/\ee jO 4 F W ay dl) (λx _=>dl.length-x.toNat) ⟨0,F,b',rfl,yW _,h,u,V.jz BJ λx I hm=>by have:=a5 x I;have:=ax x hm;omega⟩ ?_;clear h u J ax V;rintro x W ⟨i,F,b',rfl,hi,h,u,hR⟩ X hX;have J:=u.size;refine dX (λE=>?_) λE=>?_;have C:i<dl.length:=(by have:=zC E;omega);have I:=zA C;have ab:=ad _ (zW C);generalize dl[i]=d at I ab;have ag:=ac d ab;refine ee.rK hR i rfl I rfl rfl (oB h.own λa7 b1 a8 fa o=>o.st' 0 rfl _ (k7 rfl) rfl (zM _) λa9 o fb=>?_);have fo:Fr [] W a9:=fa.j8 fb λx I=>.inr (by rw[zE.1 I,a8];exact zM _);have h:=h.J0 o;have hR:=hR.q7 fo;clear o;have key:∀ {U:Bk},U.due=gH d b.due->∀x∈U.due,kB x≠kB d:=λe x I=>by rw[e] at I;exact zC (mem_filter.1 I).2
 refine gP (λx W'=>x=false/\∃F',mZ w W' [] [(a7,HI iI d BY),(G,HI c8 (nQ b) wg),(r5,vX ri)] sb F' 600 ((b'.jh d).i9 d) b ri/\ee jO 4 F' W' ay dl) ?_ ?_;refine Ij h.own 0 rfl d (qvh h.sB oJ ag (by rw[u.due];exact ab) λF1 b6 a' ah=>HM rfl ?_);have k1:=h.jP a' ah;have bb:=hR.q8 ah.fr ah.new;have b7:=Bk.oo (b:=b') (d:=(d.1,d.2.1,d.2.2.1,d.2.2.2));refine Ij k1.own 0 rfl d (qrQ (d:=d) k1.sB oJ ag (key (by show gH d b'.due=_;rw[u.due])) λb8 az=>HM rfl ?_);have k2:=k1.q7 az;refine Ij k2.own 0 rfl d (Cm k2.sB oJ ag λF3 b9 bd ai=>⟨rfl,F3,k2.jP bd ai,(bb.q7 az).q8 ai.fr ai.new⟩);rintro x ca ⟨rfl,F',h,hR⟩;rw[gi _ oJ];exact HM rfl (hX _ _ ⟨i+1,F',_,rfl,C,h.sub (.cons _ (.refl _)),u.FV ht.dus ab,hR⟩ oJ);have g1:=(Fr.refl [] W).drew;refine qn2 (hv.q7 (h.fr.trans g1)) λcc bf=>HK rfl ?_;have h:=h.q7 (g1.trans bf);refine Ij h.own 0 rfl (nQ b) (qnI h.sB λcd aA=>ik ((h.own.q7 aA).cells 0) ?_);have ec:nQ b'=nQ b:=by have h1:=H9 List.length u.k6;have h2:=H9 List.length u.lg;rw[zK,zK] at h1 h2;unfold nQ;rw[u.acc,u.jB,u.jT,u.due,h1,h2,u.jn,u.last]
 rw[ec];have h:=h.q7 aA;refine eqS (t:=wg) 2 oM oK oK (HK rfl (EP h.sB (by rw[u.last];exact ht.last) λbg bh=>?_));rw[u.last,show (b.gs g).last=b.last from rfl,beq_self_eq_true];exact kk bg (h.fr.trans bh)
end
end
end Go.Proofs.YtpcmehldpoljfaaGreatDoor
