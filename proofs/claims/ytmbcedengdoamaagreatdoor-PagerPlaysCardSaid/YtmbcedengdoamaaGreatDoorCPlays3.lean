/- Texts FormsG, PtS, PrA, PrB, PrC, PrD, PrE, PrF, PrG, FormsD, DkA, DkB, DkC, DkD, PmA, PrH, FlD, PmB, PrI, PmC, PrJ, PrK, PrL, PrM: contracts of the program's functions, one behind the other. Conditions: those that stand in each line. -/
import Derived.Test.YtmbcedengdoamaaGreatDoorCPlays1
import Derived.Test.YtmbcedengdoamaaGreatDoorProg
import Derived.KernelRfl
import Derived.Test.YtmbcedengdoamaaGreatDoorCPlays2
import Derived.Laws.IdiomRangeMap
section
set_option linter.unusedVariables false
set_option maxRecDepth 100000
namespace Go.Proofs.YtmbcedengdoamaaGreatDoor
open Go Go.Pt
@[reducible] def qnf:List Cell:=[Cell.int IntKind.u32,Cell.int IntKind.u32,Cell.int IntKind.u32]
def qe9 (s:Sl) (seq:Value) (K:Sl->World->Prop) (w:World):Prop:=new (Obj.cells #[.slice s.a s.len s.cap] 27) w fun b c=>rng Tryz.prog seq [.one (.int .u32)] (fun (d:Int) (e:World->(World->Prop)->Prop) (f:World->Prop) g h=>e h fun i=>ld .slice ⟨b,0,none⟩ i fun j=>new (Obj.cells #[.int .u32 d] 29) i fun k l=>run [.one .slice] ((Builtin.append_ (#[27,27]) 27 (#[.slice j.a j.len j.cap,.slice (some ⟨k,0,none⟩) 1 1])).run Tryz.prog l) fun m n=>st ⟨b,0,none⟩ ([.slice m.a m.len m.cap]) n fun o=>f o) (fun p q=>ld .slice ⟨b,0,none⟩ q fun r=>undefer p q fun t=>K r t) [] c
def qkz:List Ann:=[.n,.n,.n,.r [.one (.int .u32)],.n]
theorem qiS {s seq w K} (hF:qe9 s seq K w):call Tryz.prog 139 [.slice s.a s.len s.cap,seq] [.one .slice] w K:=qlV (an:=qkz) Tryz.func139 hF
def qgm (seq:Value) (K:Sl->World->Prop) (w:World):Prop:=call Tryz.prog 139 ([.slice none 0 0,seq]) ([.one .slice]) w fun a b=>K a b
def qm5:List Ann:=[.n,.n]
theorem qkt {seq w K} (hF:qgm seq K w):call Tryz.prog 116 [seq] [.one .slice] w K:=qad (an:=qm5) Tryz.func116 hF
def qhD (seq:Value) (K:Sl->World->Prop) (w:World):Prop:=call Tryz.prog 116 [seq] ([.one .slice]) w fun b c=>call Tryz.prog 91 ([.slice b.a b.len b.cap]) [] c fun (d:PUnit) e=>K b e
def qnp:List Ann:=[.n,.n,.n,.n]
theorem qlv {seq w K} (hF:qhD seq K w):call Tryz.prog 83 [seq] [.one .slice] w K:=qad (an:=qnp) Tryz.func83 hF
def qf5 (s:Sl) (v:Int) (K:Bool->World->Prop) (w:World):Prop:=call Tryz.prog 128 ([.slice s.a s.len s.cap,.int .u32 v]) ([.one (.int .i64)]) w fun (b:Int) c=>K (decide (b>=0)) c
def qlm:List Ann:=[.n,.n]
theorem qkd {s v w K} (hF:qf5 s v K w):call Tryz.prog 95 [.slice s.a s.len s.cap,.int .u32 v] [.one .bool] w K:=qad (an:=qlm) Tryz.func95 hF
def qiy (s:Sl) (v:Int) (K:Int->World->Prop) (w:World):Prop:=loop (Int) (fun a (b:Int) c=>cond (decide (b<(↑s.len:Int))) (idx s b 1 fun d=>ld (.int .u32) d c fun (e:Int)=>cond (v==e) (K b c) (a (IntKind.wrap .i64 (b+1)) c)) (K (-1) c)) 0 w
def qoA:List Ann:=[.n,.n,.n,.l [(8,.one (.int .i64))],.n,.n,.n,.n,.n,.n,.n]
theorem ql4 {s v w K} (hF:qiy s v K w):call Tryz.prog 128 [.slice s.a s.len s.cap,.int .u32 v] [.one (.int .i64)] w K:=qad (an:=qoA) Tryz.func128 hF
def qmQ (m:Option Nat) (K:Value->World->Prop) (w:World):Prop:=new (Obj.cells #[.map m] 96) w fun a b=>K (Value.func (Fn.func 117) #[] #[.pointer (some ⟨a,0,none⟩)]) b
def qsF:List Ann:=[.n,.n]
theorem qpr {m w K} (hF:qmQ m K w):call Tryz.prog 84 [.map m] [.one .any] w K:=qad (an:=qsF) Tryz.func84 hF
def qiA (yield:Value) (cap0:Addr) (K:Unit->World->Prop) (w:World):Prop:=ld .map cap0 w fun (a:Option Nat)=>run [.one .any] ((Instr.range 96 (.map a)).run Tryz.prog w) fun (b:Value) c=>loop (PUnit) (fun d (e:PUnit) f=>nxt ((Instr.next b false 0).run Tryz.prog f) (fun g=>K () g) (fun (h:Value) (i:Value) j=>ent ((Instr.entry b).run Tryz.prog j) fun (k:Value) (l:Value) m=>callV Tryz.prog yield [k] ([.one .bool]) m fun (n:Bool) o=>cond (!n) (K () o) (d () o))) () c
def qoy:List Ann:=[.n,.l [],.n,.n,.n,.n]
theorem qma {yield cap0 w K} (hF:qiA yield cap0 K w):call Tryz.prog 117 [yield,.pointer (some cap0)] [] w K:=qad (an:=qoy) Tryz.func117 hF
def qk3 (m:Option Nat) (K:((Option Nat))->World->Prop) (w:World):Prop:=cond (Option.isNone m) (K none w) (ext Tryz.prog 160 ([Value.iface 96 (.map m)]) ([.one .any]) w fun (a:Value) b=>runQ [.one .map] (fun c=>(Instr.typeAssert a 20 96 false).run Tryz.prog c) b fun (d:Option Nat)=>K d b)
def qqL:List Ann:=[.n,.n,.n,.n,.n]
theorem qoL {m w K} (hF:qk3 m K w):call Tryz.prog 137 [.map m] [.one .map] w K:=qad (an:=qqL) Tryz.func137 hF
def qiK (d:Option Addr) (K:Int->World->Prop) (w:World):Prop:=loop (Int) (fun b (c:Int) e=>cond (decide (c<2)) (mkS 5 ([.int .u8 0]) 1 1 512 512 e fun f g=>call Tryz.prog 28 ([.pointer d,.int .i64 c,.slice f.a f.len f.cap]) ([.one (.int .i64)]) g fun (h:Int) i=>cond (!h==0) (K h i) (b (IntKind.wrap .i64 (c+1)) i)) (call Tryz.prog 87 ([.pointer d]) ([.one (.int .i64)]) e fun (j:Int) k=>cond (!j==0) (K j k) (loop (Sl×Int) (fun l (m:Sl×Int) n=>call Tryz.prog 63 ([.pointer d]) ([.one (.int .i64)]) n fun (o:Int) p=>cond (decide (m.snd<o)) (new (Obj.cells #[.int .u32 (IntKind.wrap .u32 m.snd)] 29) p fun q r=>run [.one .slice] ((Builtin.append_ (#[27,27]) 27 (#[.slice m.fst.a m.fst.len m.fst.cap,.slice (some ⟨q,0,none⟩) 1 1])).run Tryz.prog r) fun s t=>l ((s,IntKind.wrap .i64 (m.snd+1))) t) (call Tryz.prog 88 ([.int .i64 (↑m.fst.len:Int)]) ([.one (.int .i64)]) p fun (u:Int) v=>slc m.fst (some u) none none 1 fun x=>slc m.fst none (some u) none 1 fun y=>call Tryz.prog 89 ([.pointer d,.slice x.a x.len x.cap,.slice y.a y.len y.cap]) ([.one (.int .i64)]) (World.drew v) fun (z:Int) A=>cond (!z==0) (K z A) (call Tryz.prog 63 ([.pointer d]) ([.one (.int .i64)]) A fun (B:Int) C=>runQ [.raw] (fun D=>(Instr.build 58 (#[(0,.int .u64 1),(1,.int .u32 (IntKind.wrap .u32 B)),(2,.int .u32 2),(3,.int .u32 (IntKind.wrap .u32 (IntKind.wrap .i64 ((↑m.fst.len:Int)-u))))])).run Tryz.prog D) C fun E=>call Tryz.prog 90 ([.pointer d,.agg (List.toArray E)]) ([.one (.int .i64)]) C fun (F:Int) G=>K F G))) (({ a:=none,len:=0,cap:=0 },2)) k))) 0 w
def qow:List Ann:=[.n,.n,.n,.l [(10,.one (.int .i64))],.n,.n,.n,.n,.n,.n,.n,.n,.n,.n,.n,.n,.n,.n,.l [(6,.one .slice),(7,.one (.int .i64))],.n,.n,.n,.n,.n,.n,.o [[0,1,2,3,4,5,6,7,8]],.n,.n,.n]
theorem qmT {d w K} (hF:qiK d K w):call Tryz.prog 39 [.pointer d] [.one (.int .i64)] w K:=qad (an:=qow) Tryz.func39 hF
def qiI (d:Option Addr) (K:((List Value)×Int)->World->Prop) (w:World):Prop:=newZ Tryz.prog 58 w fun b c=>call Tryz.prog 19 ([.pointer d,.int .i64 0]) ([.one .slice,.one (.int .i64)]) c fun (e:Sl×Int) f=>cond (!e.snd==0) (runQ [.raw] (fun g=>(Instr.build 58 #[]).run Tryz.prog g) f fun h=>chk (List.length h=28)<|st ⟨b,0,none⟩ h f fun i=>ldV 28 ⟨b,0,none⟩ i fun j=>K ((j,e.snd)) i) (call Tryz.prog 19 ([.pointer d,.int .i64 1]) ([.one .slice,.one (.int .i64)]) f fun (k:Sl×Int) l=>cond (!k.snd==0) (runQ [.raw] (fun m=>(Instr.build 58 #[]).run Tryz.prog m) l fun n=>chk (List.length n=28)<|st ⟨b,0,none⟩ n l fun o=>ldV 28 ⟨b,0,none⟩ o fun p=>K ((p,k.snd)) o) (call Tryz.prog 104 ([.slice e.fst.a e.fst.len e.fst.cap,.slice k.fst.a k.fst.len k.fst.cap]) ([.raw,.one (.int .i64)]) l fun (q:List Value×Int) r=>chk (List.length q.fst=28)<|st ⟨b,0,none⟩ q.fst r fun s=>ldV 28 ⟨b,0,none⟩ s fun t=>K ((t,q.snd)) s))
def qoN:List Ann:=[.n,.n,.n,.n,.n,.n,.n,.n,.n,.n]
theorem ql7 {d w K} (hF:qiI d K w):call Tryz.prog 62 [.pointer d] [.raw,.one (.int .i64)] w K:=qad (an:=qoN) Tryz.func62 hF
def qkT (d:Option Addr) (K:((Option Addr)×Int)->World->Prop) (w:World):Prop:=call Tryz.prog 62 ([.pointer d]) ([.raw,.one (.int .i64)]) w fun (a:List Value×Int) b=>newZ Tryz.prog 58 b fun c e=>chk (List.length a.fst=28)<|st ⟨c,0,none⟩ a.fst e fun f=>cond (!a.snd==0) (K ((none,a.snd)) f) (ldV 28 ⟨c,0,none⟩ f fun g=>runQ [.raw] (fun h=>(Instr.build 100 (#[(0,.pointer d),(1,.agg (List.toArray g))])).run Tryz.prog h) f fun i=>new (Obj.cells (List.toArray i) 100) f fun j k=>join (Bool) (fun l=>ld (.int .u32) ⟨c,1,none⟩ (World.drew k) fun (m:Int)=>call Tryz.prog 63 ([.pointer d]) ([.one (.int .i64)]) (World.drew k) fun (n:Int) o=>held [fun p=>World.cell? p ⟨c,1,none⟩=some (.int .u32 m)] o<|cond (!m==IntKind.wrap .u32 n) (l true o) (call Tryz.prog 64 ([.pointer (some ⟨j,0,none⟩)]) ([.one .bool]) o fun (q:Bool) r=>l (!q) r)) fun (s:Bool) t=>cond s (K ((none,2)) t) (call Tryz.prog 58 ([.pointer (some ⟨j,0,none⟩)]) [] t fun (u:PUnit) v=>K ((some ⟨j,0,none⟩,0)) v))
def qqT:List Ann:=[.n,.n,.n,.n,.n,.n,.n,.j [(29,.one .bool)],.o [[0,1,2,3,4,5,6,7,8,9,10]],.n,.n,.n]
theorem qoH {d w K} (hF:qkT d K w):call Tryz.prog 24 [.pointer d] [.one .ptr,.one (.int .i64)] w K:=qad (an:=qqT) Tryz.func24 hF
def qe7 (p:Option Addr) (K:Bool->World->Prop) (w:World):Prop:=new (Obj.map #[] 0) w fun b c=>nn p fun d=>ld (.int .u32) (⟨(Addr.add d 1).block,(Addr.add d 1).off+2,none⟩) c fun (e:Int)=>loop (Int) (fun f (g:Int) h=>cond (!g==0) (join (Bool) (fun i=>cond (decide (g<2)) (i true h) (nn p fun j=>ld (.int .u32) (⟨(Addr.add j 1).block,(Addr.add j 1).off+1,none⟩) h fun (k:Int)=>cond (decide (g>=k)) (i true h) (runQ [.one (.int .i64)] (fun l=>(Instr.lookup 170 (.map (some b)) (.int .u32 g) false).run Tryz.prog l) h fun (m:Int)=>i (decide (m>0)) h))) fun (n:Bool) o=>cond n (K false o) (runU ((Instr.mapUpdate 170 (.map (some b)) (.int .u32 g) (.int .i64 1)).run Tryz.prog o) fun q=>nn p fun r=>ld .ptr r q fun s=>call Tryz.prog 19 ([.pointer s,.int .i64 (IntKind.wrap .i64 g)]) ([.one .slice,.one (.int .i64)]) q fun (t:Sl×Int) u=>cond (!t.snd==0) (K false u) (call Tryz.prog 85 ([.int .u32 g,.slice t.fst.a t.fst.len t.fst.cap]) ([.one (.int .u8),.one .slice,.one (.int .i64)]) u fun (v:Int×Sl×Int) x=>join (Bool) (fun y=>cond (!v.snd.snd==0) (y true x) (y (!v.fst==2) x)) fun (z:Bool) A=>cond z (K false A) (call Tryz.prog 105 ([.slice v.snd.fst.a v.snd.fst.len v.snd.fst.cap]) ([.one (.int .u32),.one .slice,.one (.int .i64)]) A fun (B:Int×Sl×Int) C=>cond (!B.snd.snd==0) (K false C) (nn p fun D=>ld .slice ⟨D.block,D.off+29,none⟩ (World.drew C) fun E=>nn p fun F=>ld .slice ⟨F.block,F.off+30,none⟩ (World.drew C) fun G=>new (Obj.cells #[.int .u32 g] 29) (World.drew C) fun H I=>held [fun J=>World.cell? J ⟨F.block,F.off+30,none⟩=some (.slice G.a G.len G.cap),fun L=>World.cell? L ⟨D.block,D.off+29,none⟩=some (.slice E.a E.len E.cap)] I<|run [.one .slice] ((Builtin.append_ (#[27,27]) 27 (#[.slice E.a E.len E.cap,.slice (some ⟨H,0,none⟩) 1 1])).run Tryz.prog I) fun M N=>held [fun O=>World.cell? O ⟨F.block,F.off+30,none⟩=some (.slice G.a G.len G.cap)] N<|run [.one .slice] ((Builtin.append_ (#[27,27]) 27 (#[.slice G.a G.len G.cap,.slice B.snd.fst.a B.snd.fst.len B.snd.fst.cap])).run Tryz.prog N) fun P Q=>nn p fun R=>st ⟨R.block,R.off+29,none⟩ ([.slice M.a M.len M.cap]) Q fun S=>nn p fun T=>st ⟨T.block,T.off+30,none⟩ ([.slice P.a P.len P.cap]) S fun U=>f B.fst U))))) (nn p fun V=>ld .slice ⟨V.block,V.off+30,none⟩ h fun W=>loop (Int×Int) (fun X (Y:Int×Int) Z=>cond (decide (Y.snd<(↑W.len:Int))) (idx W Y.snd 1 fun aa=>ld (.int .u32) aa Z fun (ab:Int)=>join (Bool) (fun ac=>cond (decide (ab<=Y.fst)) (ac true Z) (nn p fun ad=>ld (.int .u32) (⟨(Addr.add ad 1).block,(Addr.add ad 1).off+1,none⟩) Z fun (ae:Int)=>cond (decide (ab>=ae)) (ac true Z) (runQ [.one (.int .i64)] (fun af=>(Instr.lookup 170 (.map (some b)) (.int .u32 ab) false).run Tryz.prog af) Z fun (ag:Int)=>ac (decide (ag>0)) Z))) fun (ah:Bool) ai=>cond ah (K false ai) (X ((ab,IntKind.wrap .i64 (Y.snd+1))) ai)) (nn p fun aj=>ld .slice ⟨aj.block,aj.off+30,none⟩ (World.drew Z) fun ak=>nn p fun al=>ld (.int .u32) (⟨(Addr.add al 1).block,(Addr.add al 1).off+3,none⟩) (World.drew Z) fun (am:Int)=>K ((↑ak.len:Int)==IntKind.wrap .i64 am) (World.drew Z))) ((0,0)) h)) e c
def qkH:List Ann:=[.n,.n,.n,.n,.l [(4,.one (.int .u32))],.n,.n,.n,.j [(38,.one .bool)],.n,.n,.n,.n,.n,.n,.n,.n,.j [(65,.one .bool)],.n,.n,.n,.n,.n,.n,.o [[0,1,2,3,4,5,6,9,10,11,12,13,7,8,14,15,16,17,18,19,20]],.n,.n,.n,.l [(11,.one (.int .u32)),(99,.one (.int .i64))],.n,.n,.n,.n,.n,.j [(120,.one .bool)],.n,.n,.o [[0,1,2,3,4,5,6,7,8,9,10,11,12]]]
theorem qjg {p w K} (hF:qe7 p K w):call Tryz.prog 64 [.pointer p] [.one .bool] w K:=qad (an:=qkH) Tryz.func64 hF
def qeC (p:Option Addr) (K:Unit->World->Prop) (w:World):Prop:=nn p fun a=>ld (.int .i64) ⟨a.block,a.off+31,none⟩ w fun (b:Int)=>nn p fun c=>st ⟨c.block,c.off+31,none⟩ ([.int .i64 (IntKind.wrap .i64 (b+1))]) w fun d=>(nn p fun e=>ldV 24 (⟨(Addr.add e 1).block,(Addr.add e 1).off+4,none⟩) (World.drew d) fun f=>call Tryz.prog 100 [] ([.one .ptr]) (World.drew d) fun g h=>held [fun i=>cellsAt i (⟨(Addr.add e 1).block,(Addr.add e 1).off+4,none⟩) 0 f] h<|call Tryz.prog 100 [] ([.one .ptr]) h fun j k=>held [fun l=>cellsAt l (⟨(Addr.add e 1).block,(Addr.add e 1).off+4,none⟩) 0 f] k<|new (Obj.map #[] 0) k fun m n=>held [fun o=>cellsAt o (⟨(Addr.add e 1).block,(Addr.add e 1).off+4,none⟩) 0 f] n<|runQ [.raw] (fun q=>(Instr.build 98 (#[(0,.pointer g),(1,.pointer j),(2,.map (some m)),(3,.agg (List.toArray f))])).run Tryz.prog q) n fun r=>nn p fun s=>chk (List.length r=27)<|st ⟨s.block,s.off+33,none⟩ r n fun t=>nn p fun u=>ld .slice ⟨u.block,u.off+30,none⟩ t fun v=>loop (Int) (fun x (y:Int) z=>cond (decide (y<(↑v.len:Int))) (idx v y 1 fun A=>ld (.int .u32) A z fun (B:Int)=>nn p fun C=>ld .ptr ⟨C.block,C.off+33,none⟩ z fun D=>call Tryz.prog 44 ([.pointer D,.int .u32 B]) ([.one .bool]) z fun (E:Bool) F=>x (IntKind.wrap .i64 (y+1)) F) (K () z)) 0 t)/\((nn p fun G=>ldV 24 (⟨(Addr.add G 1).block,(Addr.add G 1).off+4,none⟩) (World.drew d) fun H=>call Tryz.prog 100 [] ([.one .ptr]) (World.drew d) fun I J=>held [fun L=>cellsAt L (⟨(Addr.add G 1).block,(Addr.add G 1).off+4,none⟩) 0 H] J<|new (Obj.map #[] 0) J fun M N=>held [fun O=>cellsAt O (⟨(Addr.add G 1).block,(Addr.add G 1).off+4,none⟩) 0 H] N<|call Tryz.prog 100 [] ([.one .ptr]) N fun P Q=>held [fun R=>cellsAt R (⟨(Addr.add G 1).block,(Addr.add G 1).off+4,none⟩) 0 H] Q<|runQ [.raw] (fun S=>(Instr.build 98 (#[(0,.pointer I),(1,.pointer P),(2,.map (some M)),(3,.agg (List.toArray H))])).run Tryz.prog S) Q fun T=>nn p fun U=>chk (List.length T=27)<|st ⟨U.block,U.off+33,none⟩ T Q fun V=>nn p fun W=>ld .slice ⟨W.block,W.off+30,none⟩ V fun X=>loop (Int) (fun Y (Z:Int) aa=>cond (decide (Z<(↑X.len:Int))) (idx X Z 1 fun ab=>ld (.int .u32) ab aa fun (ac:Int)=>nn p fun ad=>ld .ptr ⟨ad.block,ad.off+33,none⟩ aa fun ae=>call Tryz.prog 44 ([.pointer ae,.int .u32 ac]) ([.one .bool]) aa fun (af:Bool) ag=>Y (IntKind.wrap .i64 (Z+1)) ag) (K () aa)) 0 V)/\(nn p fun ah=>ldV 24 (⟨(Addr.add ah 1).block,(Addr.add ah 1).off+4,none⟩) (World.drew d) fun ai=>new (Obj.map #[] 0) (World.drew d) fun aj ak=>held [fun al=>cellsAt al (⟨(Addr.add ah 1).block,(Addr.add ah 1).off+4,none⟩) 0 ai] ak<|call Tryz.prog 100 [] ([.one .ptr]) ak fun am an=>held [fun ao=>cellsAt ao (⟨(Addr.add ah 1).block,(Addr.add ah 1).off+4,none⟩) 0 ai] an<|call Tryz.prog 100 [] ([.one .ptr]) an fun ap aq=>held [fun ar=>cellsAt ar (⟨(Addr.add ah 1).block,(Addr.add ah 1).off+4,none⟩) 0 ai] aq<|runQ [.raw] (fun au=>(Instr.build 98 (#[(0,.pointer am),(1,.pointer ap),(2,.map (some aj)),(3,.agg (List.toArray ai))])).run Tryz.prog au) aq fun av=>nn p fun aw=>chk (List.length av=27)<|st ⟨aw.block,aw.off+33,none⟩ av aq fun ax=>nn p fun ay=>ld .slice ⟨ay.block,ay.off+30,none⟩ ax fun az=>loop (Int) (fun aA (aB:Int) aC=>cond (decide (aB<(↑az.len:Int))) (idx az aB 1 fun aD=>ld (.int .u32) aD aC fun (aE:Int)=>nn p fun aF=>ld .ptr ⟨aF.block,aF.off+33,none⟩ aC fun aG=>call Tryz.prog 44 ([.pointer aG,.int .u32 aE]) ([.one .bool]) aC fun (aH:Bool) aI=>aA (IntKind.wrap .i64 (aB+1)) aI) (K () aC)) 0 ax))
def qjD:List Ann:=[.n,.n,.o [[0,4,5,6,7,8,1,2,3,9,10,11,12],[0,4,5,6,7,8,1,3,2,9,10,11,12],[0,4,5,6,7,8,3,1,2,9,10,11,12]],.n,.l [(28,.one (.int .i64))],.n,.n,.n,.n]
theorem qhN {p w K} (hF:qeC p K w):call Tryz.prog 58 [.pointer p] [] w K:=qad (an:=qjD) Tryz.func58 hF
def qfF (p:Option Addr) (K:Int->World->Prop) (w:World):Prop:=nn p fun a=>ld (.int .u64) ⟨a.block,a.off+1,none⟩ w fun (b:Int)=>K b w
def qlD:List Ann:=[.n,.n]
theorem qjP {p w K} (hF:qfF p K w):call Tryz.prog 25 [.pointer p] [.one (.int .u64)] w K:=qad (an:=qlD) Tryz.func25 hF
def qdO (p:Option Addr) (K:Int->World->Prop) (w:World):Prop:=nn p fun a=>ld (.int .u32) (⟨(Addr.add a 1).block,(Addr.add a 1).off+1,none⟩) w fun (b:Int)=>K (IntKind.wrap .i64 b) w
def qiU:List Ann:=[.n,.n]
theorem qg3 {p w K} (hF:qdO p K w):call Tryz.prog 86 [.pointer p] [.one (.int .i64)] w K:=qad (an:=qiU) Tryz.func86 hF
def qe8 (p:Option Addr) (t:Int) (K:((Int×Int×Int))->World->Prop) (w:World):Prop:=new (Obj.cells #[.int .u32 0,.int .u32 0,.int .u32 0] 42) w fun a b=>join (Bool) (fun c=>cond (decide (t<0)) (c true b) (c (decide (t>=8)) b)) fun (d:Bool) e=>cond d (st ⟨a,0,none⟩ ([.int .u32 0,.int .u32 0,.int .u32 0]) e fun f=>ldA (qnf) ⟨a,0,none⟩ f fun (g:Int×Int×Int)=>K g f) (nn p fun h=>chk (0<=t/\t<(↑8:Int))<|ldA (qnf) (Addr.add ⟨(Addr.add h 33).block,(Addr.add h 33).off+3,none⟩ (Int.toNat t*3)) e fun (i:Int×Int×Int)=>st ⟨a,0,none⟩ (HL.mk qnf i) e fun j=>ldA (qnf) ⟨a,0,none⟩ j fun (k:Int×Int×Int)=>K k j)
def qkR:List Ann:=[.n,.n,.j [(10,.one .bool)],.n,.n]
theorem qjf {p t w K} (hF:qe8 p t K w):call Tryz.prog 46 [.pointer p,.int .i64 t] [.agg [.int .u32,.int .u32,.int .u32]] w K:=qad (an:=qkR) Tryz.func46 hF
def qdx (p:Option Addr) (t:Int) (r0:Int) (r1:Int) (r2:Int) (K:Int->World->Prop) (w:World):Prop:=new (Obj.cells #[.int .u32 r0,.int .u32 r1,.int .u32 r2] 42) w fun a b=>nn p fun c=>ld .bool ⟨c.block,c.off+32,none⟩ b fun (d:Bool)=>cond d (K 7 b) (join (Bool) (fun e=>cond (decide (t<0)) (e true b) (e (decide (t>=8)) b)) fun (f:Bool) g=>cond f (K 4 g) (ldA (qnf) ⟨a,0,none⟩ (World.drew g) fun (h:Int×Int×Int)=>nn p fun i=>chk (0<=t/\t<(↑8:Int))<|st (Addr.add ⟨(Addr.add i 33).block,(Addr.add i 33).off+3,none⟩ (Int.toNat t*3)) (HL.mk qnf h) (World.drew g) fun j=>K 0 j))
def qhM:List Ann:=[.n,.n,.n,.n,.j [(12,.one .bool)],.n,.n,.o [[0,1,2,3,4,5,6,7]],.n]
theorem qgN {p t r0 r1 r2 w K} (hF:qdx p t r0 r1 r2 K w):call Tryz.prog 53 [.pointer p,.int .i64 t,.agg #[.int .u32 r0,.int .u32 r1,.int .u32 r2]] [.one (.int .i64)] w K:=qad (an:=qhM) Tryz.func53 hF
def qfe (p:Option Addr) (n:Int) (K:Bool->World->Prop) (w:World):Prop:=join (Bool) (fun b=>cond (decide (n<2)) (b true w) (nn p fun c=>ld (.int .u32) (⟨(Addr.add c 1).block,(Addr.add c 1).off+1,none⟩) w fun (d:Int)=>cond (decide (n>=d)) (b true w) (nn p fun e=>ld .slice ⟨e.block,e.off+29,none⟩ w fun f=>call Tryz.prog 95 ([.slice f.a f.len f.cap,.int .u32 n]) ([.one .bool]) w fun (g:Bool) h=>cond g (b true h) (nn p fun i=>ld .ptr ⟨i.block,i.off+33,none⟩ h fun j=>call Tryz.prog 93 ([.pointer j,.int .u32 n]) ([.one .bool]) h fun (k:Bool) l=>cond k (b true l) (nn p fun m=>ld .ptr (⟨(Addr.add m 33).block,(Addr.add m 33).off+1,none⟩) l fun o=>call Tryz.prog 93 ([.pointer o,.int .u32 n]) ([.one .bool]) l fun (q:Bool) r=>b q r))))) fun (s:Bool) t=>cond s (K false t) (nn p fun u=>ld .map (⟨(Addr.add u 33).block,(Addr.add u 33).off+2,none⟩) t fun (v:Option Nat)=>runQ [.agg [.int .u8,.slice],.one .bool] (fun x=>(Instr.lookup 96 (.map v) (.int .u32 n) true).run Tryz.prog x) t fun (y:(Int×Sl)×Bool)=>new (Obj.cells #[.int .u8 0,.slice none 0 0] 105) t fun z A=>st ⟨z,0,none⟩ ([.int .u8 y.fst.fst,.slice y.fst.snd.a y.fst.snd.len y.fst.snd.cap]) A fun B=>K (!y.snd) B)
def qkJ:List Ann:=[.n,.n,.j [(43,.one .bool)],.n,.n,.n]
theorem qi0 {p n w K} (hF:qfe p n K w):call Tryz.prog 45 [.pointer p,.int .u32 n] [.one .bool] w K:=qad (an:=qkJ) Tryz.func45 hF
def qe4 (p:Option Addr) (n:Int) (K:(Int×Sl×Int)->World->Prop) (w:World):Prop:=nn p fun b=>ld .bool ⟨b.block,b.off+32,none⟩ w fun (c:Bool)=>cond c (K ((0,{ a:=none,len:=0,cap:=0 },7)) w) (nn p fun d=>ld .map (⟨(Addr.add d 33).block,(Addr.add d 33).off+2,none⟩) w fun (e:Option Nat)=>runQ [.agg [.int .u8,.slice],.one .bool] (fun f=>(Instr.lookup 96 (.map e) (.int .u32 n) true).run Tryz.prog f) w fun (g:(Int×Sl)×Bool)=>new (Obj.cells #[.int .u8 0,.slice none 0 0] 105) w fun h i=>st ⟨h,0,none⟩ ([.int .u8 g.fst.fst,.slice g.fst.snd.a g.fst.snd.len g.fst.snd.cap]) i fun j=>cond g.snd (ld (.int .u8) ⟨h,0,none⟩ (World.drew j) fun (k:Int)=>ld .slice ⟨h,1,none⟩ (World.drew j) fun l=>call Tryz.prog 42 ([.slice l.a l.len l.cap]) ([.one .slice]) (World.drew j) fun m o=>held [fun q=>World.cell? q ⟨h,0,none⟩=some (.int .u8 k)] o<|K ((k,m,0)) o) (call Tryz.prog 45 ([.pointer p,.int .u32 n]) ([.one .bool]) j fun (r:Bool) s=>cond (!r) (K ((0,{ a:=none,len:=0,cap:=0 },10)) s) (nn p fun t=>ld .ptr t s fun u=>call Tryz.prog 19 ([.pointer u,.int .i64 (IntKind.wrap .i64 n)]) ([.one .slice,.one (.int .i64)]) s fun (v:Sl×Int) x=>cond (!v.snd==0) (K ((0,{ a:=none,len:=0,cap:=0 },v.snd)) x) (call Tryz.prog 85 ([.int .u32 n,.slice v.fst.a v.fst.len v.fst.cap]) ([.one (.int .u8),.one .slice,.one (.int .i64)]) x fun (y:Int×Sl×Int) z=>K y z))))
def qkB:List Ann:=[.n,.n,.n,.n,.n,.n,.n,.n,.o [[0,1,2,3,4,5,6,7]],.n,.n,.n,.n,.n,.n,.n,.n]
theorem qiZ {p n w K} (hF:qe4 p n K w):call Tryz.prog 35 [.pointer p,.int .u32 n] [.one (.int .u8),.one .slice,.one (.int .i64)] w K:=qad (an:=qkB) Tryz.func35 hF
def qfc (p:Option Addr) (kind:Int) (body:Sl) (K:(Int×Int)->World->Prop) (w:World):Prop:=nn p fun b=>ld .bool ⟨b.block,b.off+32,none⟩ w fun (c:Bool)=>cond c (K ((0,7)) w) (cond (decide ((↑body.len:Int)>500)) (K ((0,3)) w) (nn p fun d=>ld .ptr ⟨d.block,d.off+33,none⟩ w fun e=>call Tryz.prog 41 ([.pointer e]) ([.one (.int .u32),.one .bool]) w fun (f:Int×Bool) g=>cond (!f.snd) (K ((0,6)) g) (nn p fun h=>ld .map (⟨(Addr.add h 33).block,(Addr.add h 33).off+2,none⟩) (World.drew g) fun (i:Option Nat)=>call Tryz.prog 42 ([.slice body.a body.len body.cap]) ([.one .slice]) (World.drew g) fun j k=>held [fun l=>World.cell? l (⟨(Addr.add h 33).block,(Addr.add h 33).off+2,none⟩)=some (.map i)] k<|runU ((Instr.mapUpdate 96 (.map i) (.int .u32 f.fst) (.agg #[.int .u8 kind,.slice j.a j.len j.cap])).run Tryz.prog k) fun m=>K ((f.fst,0)) m)))
def qkC:List Ann:=[.n,.n,.n,.n,.n,.n,.n,.n,.n,.n,.n,.o [[0,1,2,3,4,5,6,7,8,9,10]],.n]
theorem qiY {p kind body w K} (hF:qfc p kind body K w):call Tryz.prog 10 [.pointer p,.int .u8 kind,.slice body.a body.len body.cap] [.one (.int .u32),.one (.int .i64)] w K:=qad (an:=qkC) Tryz.func10 hF
def qfL (p:Option Addr) (n:Int) (kind:Int) (body:Sl) (K:Int->World->Prop) (w:World):Prop:=nn p fun b=>ld .bool ⟨b.block,b.off+32,none⟩ w fun (c:Bool)=>cond c (K 7 w) (nn p fun d=>ld .map (⟨(Addr.add d 33).block,(Addr.add d 33).off+2,none⟩) w fun (e:Option Nat)=>runQ [.agg [.int .u8,.slice],.one .bool] (fun f=>(Instr.lookup 96 (.map e) (.int .u32 n) true).run Tryz.prog f) w fun (g:(Int×Sl)×Bool)=>new (Obj.cells #[.int .u8 0,.slice none 0 0] 105) w fun h i=>st ⟨h,0,none⟩ ([.int .u8 g.fst.fst,.slice g.fst.snd.a g.fst.snd.len g.fst.snd.cap]) i fun j=>cond (!g.snd) (K 10 j) (cond (decide ((↑body.len:Int)>500)) (K 3 j) (nn p fun k=>ld .map (⟨(Addr.add k 33).block,(Addr.add k 33).off+2,none⟩) (World.drew j) fun (l:Option Nat)=>call Tryz.prog 42 ([.slice body.a body.len body.cap]) ([.one .slice]) (World.drew j) fun m o=>held [fun q=>World.cell? q (⟨(Addr.add k 33).block,(Addr.add k 33).off+2,none⟩)=some (.map l)] o<|runU ((Instr.mapUpdate 96 (.map l) (.int .u32 n) (.agg #[.int .u8 kind,.slice m.a m.len m.cap])).run Tryz.prog o) fun r=>K 0 r)))
def qlP:List Ann:=[.n,.n,.n,.n,.n,.n,.n,.n,.n,.n,.n,.n,.o [[0,1,2,3,4,5,6,7,8,9,10]],.n]
theorem qjO {p n kind body w K} (hF:qfL p n kind body K w):call Tryz.prog 49 [.pointer p,.int .u32 n,.int .u8 kind,.slice body.a body.len body.cap] [.one (.int .i64)] w K:=qad (an:=qlP) Tryz.func49 hF
def qfa (p:Option Addr) (n:Int) (K:Int->World->Prop) (w:World):Prop:=nn p fun b=>ld .bool ⟨b.block,b.off+32,none⟩ w fun (c:Bool)=>cond c (K 7 w) (nn p fun d=>ld .map (⟨(Addr.add d 33).block,(Addr.add d 33).off+2,none⟩) w fun (e:Option Nat)=>runQ [.agg [.int .u8,.slice],.one .bool] (fun f=>(Instr.lookup 96 (.map e) (.int .u32 n) true).run Tryz.prog f) w fun (g:(Int×Sl)×Bool)=>new (Obj.cells #[.int .u8 0,.slice none 0 0] 105) w fun h i=>st ⟨h,0,none⟩ ([.int .u8 g.fst.fst,.slice g.fst.snd.a g.fst.snd.len g.fst.snd.cap]) i fun j=>cond g.snd (nn p fun k=>ld .map (⟨(Addr.add k 33).block,(Addr.add k 33).off+2,none⟩) j fun (l:Option Nat)=>run [] ((Builtin.delete_ (#[96,29]) 0 (#[.map l,.int .u32 n])).run Tryz.prog j) fun (m:PUnit) o=>nn p fun q=>ld .ptr ⟨q.block,q.off+33,none⟩ o fun r=>call Tryz.prog 44 ([.pointer r,.int .u32 n]) ([.one .bool]) o fun (s:Bool) t=>K 0 t) (call Tryz.prog 45 ([.pointer p,.int .u32 n]) ([.one .bool]) j fun (u:Bool) v=>cond (!u) (K 10 v) (nn p fun x=>ld .ptr (⟨(Addr.add x 33).block,(Addr.add x 33).off+1,none⟩) v fun y=>call Tryz.prog 44 ([.pointer y,.int .u32 n]) ([.one .bool]) v fun (z:Bool) A=>K 0 A)))
def qkG:List Ann:=[.n,.n,.n,.n,.n,.n,.n,.n,.n,.n,.n,.n,.n,.n,.n]
theorem qji {p n w K} (hF:qfa p n K w):call Tryz.prog 13 [.pointer p,.int .u32 n] [.one (.int .i64)] w K:=qad (an:=qkG) Tryz.func13 hF
def qfd (p:Option Addr) (K:(Sl×Sl×Bool)->World->Prop) (w:World):Prop:=nn p fun b=>ld .ptr ⟨b.block,b.off+33,none⟩ w fun c=>call Tryz.prog 40 ([.pointer c]) ([.one .slice]) w fun d e=>nn p fun f=>ld .ptr (⟨(Addr.add f 33).block,(Addr.add f 33).off+1,none⟩) (World.drew e) fun g=>nn p fun h=>ld .slice ⟨h.block,h.off+29,none⟩ (World.drew e) fun i=>call Tryz.prog 40 ([.pointer g]) ([.one .slice]) (World.drew e) fun j k=>held [fun l=>World.cell? l ⟨h.block,h.off+29,none⟩=some (.slice i.a i.len i.cap)] k<|run [.one .slice] ((Builtin.append_ (#[27,27]) 27 (#[.slice j.a j.len j.cap,.slice i.a i.len i.cap])).run Tryz.prog k) fun m n=>call Tryz.prog 88 ([.int .i64 (IntKind.wrap .i64 ((↑d.len:Int)+(↑m.len:Int)))]) ([.one (.int .i64)]) n fun (o:Int) q=>cond (decide (o>(↑d.len:Int))) (K (({ a:=none,len:=0,cap:=0 },{ a:=none,len:=0,cap:=0 },false)) q) (slc d (some o) none none 1 fun r=>run [.one .slice] ((Builtin.append_ (#[27,27]) 27 (#[.slice m.a m.len m.cap,.slice r.a r.len r.cap])).run Tryz.prog q) fun s t=>call Tryz.prog 91 ([.slice s.a s.len s.cap]) [] t fun (u:PUnit) v=>slc d none (some o) (some o) 1 fun x=>K ((x,s,true)) v)
def qkx:List Ann:=[.n,.n,.n,.o [[0,1,2,3,4,6,7,8,9,5,10,11]],.n,.n,.n,.n,.n,.n,.n]
theorem qjd {p w K} (hF:qfd p K w):call Tryz.prog 56 [.pointer p] [.one .slice,.one .slice,.one .bool] w K:=qad (an:=qkx) Tryz.func56 hF
def qdK (p:Option Addr) (K:Int->World->Prop) (w:World):Prop:=nn p fun b=>ld .bool ⟨b.block,b.off+32,none⟩ w fun (c:Bool)=>cond c (K 7 w) (join (Bool) (fun d=>nn p fun e=>ld .map (⟨(Addr.add e 33).block,(Addr.add e 33).off+2,none⟩) (World.drew w) fun (f:Option Nat)=>runQ [.one (.int .i64)] (fun g=>(Builtin.len_ #[96] 3 (#[.map f])).run Tryz.prog g) (World.drew w) fun (h:Int)=>cond (h==0) (nn p fun i=>ld .ptr (⟨(Addr.add i 33).block,(Addr.add i 33).off+1,none⟩) (World.drew w) fun j=>call Tryz.prog 43 ([.pointer j]) ([.one (.int .i64)]) (World.drew w) fun (k:Int) l=>cond (k==0) (nn p fun m=>ldV 24 (⟨(Addr.add m 33).block,(Addr.add m 33).off+3,none⟩) l fun n=>nn p fun o=>ldV 24 (⟨(Addr.add o 1).block,(Addr.add o 1).off+4,none⟩) l fun q=>runQ [.one .bool] (fun r=>(do eqGuard BinOp.eql 43 (Operand.tmp 33) (Operand.tmp 38) (.agg (List.toArray n)) (.agg (List.toArray q)); binOp BinOp.eql 43 (.agg (List.toArray n)) (.agg (List.toArray q))).run Tryz.prog r) l fun (s:Bool)=>d s l) (d false l)) (d false (World.drew w))) fun (t:Bool) u=>cond t (K 0 u) (call Tryz.prog 56 ([.pointer p]) ([.one .slice,.one .slice,.one .bool]) u fun (v:Sl×Sl×Bool) x=>cond (!v.snd.snd) (K 6 x) (nn p fun y=>ld (.int .u64) ⟨y.block,y.off+1,none⟩ (World.drew x) fun (z:Int)=>nn p fun A=>ld (.int .u32) (⟨(Addr.add A 1).block,(Addr.add A 1).off+1,none⟩) (World.drew x) fun (B:Int)=>nn p fun C=>ldV 24 (⟨(Addr.add C 33).block,(Addr.add C 33).off+3,none⟩) (World.drew x) fun D=>runQ [.raw] (fun E=>(Instr.build 58 (#[(0,.int .u64 (IntKind.wrap .u64 (z+1))),(1,.int .u32 B),(3,.int .u32 (IntKind.wrap .u32 (↑v.snd.fst.len:Int))),(4,.agg (List.toArray D))])).run Tryz.prog E) (World.drew x) fun F=>newZ Tryz.prog 58 (World.drew x) fun G H=>held [fun I=>cellsAt I (⟨(Addr.add C 33).block,(Addr.add C 33).off+3,none⟩) 0 D,fun J=>World.cell? J (⟨(Addr.add A 1).block,(Addr.add A 1).off+1,none⟩)=some (.int .u32 B),fun L=>World.cell? L ⟨y.block,y.off+1,none⟩=some (.int .u64 z)] H<|chk (List.length F=28)<|st ⟨G,0,none⟩ F H fun M=>join (PUnit) (fun N=>cond (decide ((↑v.fst.len:Int)>0)) (idx v.fst 0 1 fun O=>ld (.int .u32) O M fun (P:Int)=>st ⟨G,2,none⟩ ([.int .u32 P]) M fun Q=>N () Q) (N () M)) fun (R:PUnit) S=>ldV 28 ⟨G,0,none⟩ S fun T=>call Tryz.prog 57 ([.pointer p,.slice v.fst.a v.fst.len v.fst.cap,.slice v.snd.fst.a v.snd.fst.len v.snd.fst.cap,.agg (List.toArray T)]) ([.one (.int .i64)]) S fun (U:Int) V=>cond (!U==0) (runQ [.raw] (fun W=>(Instr.build 100 (#[(5,.bool true)])).run Tryz.prog W) V fun X=>nn p fun Y=>chk (List.length X=60)<|st Y X V fun Z=>call Tryz.prog 58 ([.pointer p]) [] Z fun (aa:PUnit) ab=>K U ab) (ldV 28 ⟨G,0,none⟩ V fun ac=>nn p fun ad=>chk (List.length ac=28)<|st ⟨ad.block,ad.off+1,none⟩ ac V fun ae=>nn p fun af=>st ⟨af.block,af.off+29,none⟩ ([.slice v.fst.a v.fst.len v.fst.cap]) ae fun ag=>nn p fun ah=>st ⟨ah.block,ah.off+30,none⟩ ([.slice v.snd.fst.a v.snd.fst.len v.snd.fst.cap]) ag fun ai=>call Tryz.prog 58 ([.pointer p]) [] ai fun (aj:PUnit) ak=>K 0 ak))))
def qiW:List Ann:=[.n,.n,.n,.n,.n,.j [(40,.one .bool)],.o [[0,1,2,3,4,5,6,7,8,9,10,11,12,13,14,15,16,17,18,19,20,21,22,23,24,25,26,27,28]],.n,.n,.n,.n,.n,.n,.o [[0,1,2,3,4,5,6,7,8,9,10,11,12,13,14,15,16,17,18,19,20,21]],.j [],.n,.n,.n,.n,.n,.n,.n,.n,.n,.n]
theorem qhb {p w K} (hF:qdK p K w):call Tryz.prog 20 [.pointer p] [.one (.int .i64)] w K:=qad (an:=qiW) Tryz.func20 hF
def qem (p:Option Addr) (pages:Sl) (named:Sl) (next:List Value) (K:Int->World->Prop) (w:World):Prop:=new (Obj.cells (List.toArray next) 58) w fun b c=>call Tryz.prog 34 ([.pointer p]) ([.one .slice]) c fun d e=>loop (Int) (fun f (g:Int) h=>cond (decide (g<(↑d.len:Int))) (idx d g 1 fun i=>ld (.int .u32) i h fun (j:Int)=>nn p fun k=>ld .map (⟨(Addr.add k 33).block,(Addr.add k 33).off+2,none⟩) (World.drew h) fun (l:Option Nat)=>runQ [.agg [.int .u8,.slice]] (fun m=>(Instr.lookup 96 (.map l) (.int .u32 j) false).run Tryz.prog m) (World.drew h) fun (n:Int×Sl)=>nn p fun o=>ld .map (⟨(Addr.add o 33).block,(Addr.add o 33).off+2,none⟩) (World.drew h) fun (q:Option Nat)=>runQ [.agg [.int .u8,.slice]] (fun r=>(Instr.lookup 96 (.map q) (.int .u32 j) false).run Tryz.prog r) (World.drew h) fun (s:Int×Sl)=>call Tryz.prog 99 ([.int .u32 j,.int .u8 n.fst,.slice s.snd.a s.snd.len s.snd.cap]) ([.one .slice,.one (.int .i64)]) (World.drew h) fun (t:Sl×Int) u=>nn p fun v=>ld .ptr v u fun x=>call Tryz.prog 28 ([.pointer x,.int .i64 (IntKind.wrap .i64 j),.slice t.fst.a t.fst.len t.fst.cap]) ([.one (.int .i64)]) u fun (y:Int) z=>cond (!y==0) (K y z) (f (IntKind.wrap .i64 (g+1)) z)) (nn p fun A=>ld .ptr A h fun B=>call Tryz.prog 89 ([.pointer B,.slice named.a named.len named.cap,.slice pages.a pages.len pages.cap]) ([.one (.int .i64)]) h fun (C:Int) D=>cond (!C==0) (K C D) (nn p fun E=>ld .ptr E (World.drew D) fun F=>ldV 28 ⟨b,0,none⟩ (World.drew D) fun G=>call Tryz.prog 90 ([.pointer F,.agg (List.toArray G)]) ([.one (.int .i64)]) (World.drew D) fun (H:Int) I=>K H I))) 0 e
def qjr:List Ann:=[.n,.n,.n,.l [(18,.one (.int .i64))],.n,.n,.n,.n,.n,.o [[0,1,2,3,4,5,6,7,8,9,10,11,12,13,14,15,16,17,18,19,20,21,22]],.n,.n,.n,.n,.n,.n,.n,.n,.o [[0,1,2,3,4,5,6]]]
theorem qhY {p pages named next w K} (hF:qem p pages named next K w):call Tryz.prog 57 [.pointer p,.slice pages.a pages.len pages.cap,.slice named.a named.len named.cap,.agg next.toArray] [.one (.int .i64)] w K:=qad (an:=qjr) Tryz.func57 hF
def qeG (p:Option Addr) (K:Unit->World->Prop) (w:World):Prop:=call Tryz.prog 58 ([.pointer p]) [] w fun (a:PUnit) b=>K () b
def qjK:List Ann:=[]
theorem qhQ {p w K} (hF:qeG p K w):call Tryz.prog 68 [.pointer p] [] w K:=qad (an:=qjK) Tryz.func68 hF
def qe5 (p:Option Addr) (K:((Option Addr))->World->Prop) (w:World):Prop:=nn p fun a=>ld .bool ⟨a.block,a.off+32,none⟩ w fun (b:Bool)=>cond b (K none w) (nn p fun c=>ld (.int .i64) ⟨c.block,c.off+31,none⟩ (World.drew w) fun (d:Int)=>nn p fun e=>ldV 27 ⟨e.block,e.off+33,none⟩ (World.drew w) fun f=>call Tryz.prog 111 ([.agg (List.toArray f)]) [.raw] (World.drew w) fun g h=>held [fun i=>World.cell? i ⟨c.block,c.off+31,none⟩=some (.int .i64 d)] h<|runQ [.raw] (fun j=>(Instr.build 193 (#[(0,.pointer p),(1,.int .i64 d),(2,.agg (List.toArray g))])).run Tryz.prog j) h fun k=>new (Obj.cells (List.toArray k) 193) h fun l m=>K (some ⟨l,0,none⟩) m)
def qkQ:List Ann:=[.n,.n,.n,.n,.n,.o [[0,1,2,3,4,5,6,7,8,9,10,11,12]]]
theorem qi5 {p w K} (hF:qe5 p K w):call Tryz.prog 70 [.pointer p] [.one .ptr] w K:=qad (an:=qkQ) Tryz.func70 hF
def qe3 (p:Option Addr) (m:Option Addr) (K:Int->World->Prop) (w:World):Prop:=nn p fun a=>ld .bool ⟨a.block,a.off+32,none⟩ w fun (b:Bool)=>cond b (K 7 w) (join (Bool) (fun c=>cond (Option.isNone m) (c true (World.drew w)) (nn m fun d=>ld .ptr d (World.drew w) fun e=>runQ [.one .bool] (fun f=>(do eqGuard BinOp.neq 24 (Operand.tmp 17) (Operand.tmp 18) (.pointer e) (.pointer p); binOp BinOp.neq 24 (.pointer e) (.pointer p)).run Tryz.prog f) (World.drew w) fun (g:Bool)=>cond g (c true (World.drew w)) (nn m fun h=>ld (.int .i64) ⟨h.block,h.off+1,none⟩ (World.drew w) fun (i:Int)=>nn p fun j=>ld (.int .i64) ⟨j.block,j.off+31,none⟩ (World.drew w) fun (k:Int)=>c (!i==k) (World.drew w)))) fun (l:Bool) n=>cond l (K 10 n) (nn m fun o=>ldV 27 ⟨o.block,o.off+2,none⟩ n fun q=>call Tryz.prog 111 ([.agg (List.toArray q)]) [.raw] n fun r s=>nn p fun t=>chk (List.length r=27)<|st ⟨t.block,t.off+33,none⟩ r s fun u=>K 0 u))
def qkK:List Ann:=[.n,.n,.n,.n,.j [(10,.one .bool)],.o [[0,1,2,3,4,5,6,7,8,9,10,11,12,13,14,15,16,17,18,19,20,21]],.n,.n,.n]
theorem qiV {p m w K} (hF:qe3 p m K w):call Tryz.prog 71 [.pointer p,.pointer m] [.one (.int .i64)] w K:=qad (an:=qkK) Tryz.func71 hF
def qe6 (p:Option Addr) (K:Int->World->Prop) (w:World):Prop:=nn p fun a=>ld .ptr ⟨a.block,a.off+33,none⟩ w fun b=>call Tryz.prog 43 ([.pointer b]) ([.one (.int .i64)]) w fun (c:Int) d=>K c d
def qkE:List Ann:=[.n,.n]
theorem qiX {p w K} (hF:qe6 p K w):call Tryz.prog 11 [.pointer p] [.one (.int .i64)] w K:=qad (an:=qkE) Tryz.func11 hF
def qfb (p:Option Addr) (K:Sl->World->Prop) (w:World):Prop:=nn p fun a=>ld .ptr ⟨a.block,a.off+33,none⟩ w fun b=>call Tryz.prog 40 ([.pointer b]) ([.one .slice]) w fun c d=>K c d
def qky:List Ann:=[.n,.n]
theorem qi3 {p w K} (hF:qfb p K w):call Tryz.prog 9 [.pointer p] [.one .slice] w K:=qad (an:=qky) Tryz.func9 hF
def qeE (p:Option Addr) (K:Sl->World->Prop) (w:World):Prop:=nn p fun b=>ld .slice ⟨b.block,b.off+29,none⟩ w fun c=>call Tryz.prog 82 ([.slice c.a c.len c.cap]) ([.one .slice]) w fun d e=>K d e
def qjs:List Ann:=[.n,.n]
theorem qin {p w K} (hF:qeE p K w):call Tryz.prog 32 [.pointer p] [.one .slice] w K:=qad (an:=qjs) Tryz.func32 hF
def qda (p:Option Addr) (K:Sl->World->Prop) (w:World):Prop:=nn p fun a=>ld .ptr (⟨(Addr.add a 33).block,(Addr.add a 33).off+1,none⟩) w fun b=>call Tryz.prog 40 ([.pointer b]) ([.one .slice]) w fun c d=>K c d
def qg2:List Ann:=[.n,.n]
theorem qgf {p w K} (hF:qda p K w):call Tryz.prog 33 [.pointer p] [.one .slice] w K:=qad (an:=qg2) Tryz.func33 hF
def qew (p:Option Addr) (K:Sl->World->Prop) (w:World):Prop:=nn p fun a=>ld .map (⟨(Addr.add a 33).block,(Addr.add a 33).off+2,none⟩) w fun (b:Option Nat)=>call Tryz.prog 84 ([.map b]) ([.one .any]) w fun (c:Value) d=>call Tryz.prog 83 [c] ([.one .slice]) d fun e f=>K e f
def qjV:List Ann:=[.n,.n]
theorem qil {p w K} (hF:qew p K w):call Tryz.prog 34 [.pointer p] [.one .slice] w K:=qad (an:=qjV) Tryz.func34 hF
def qez (w_:List Value) (K:((List Value))->World->Prop) (w:World):Prop:=new (Obj.cells (List.toArray w_) 98) w fun a b=>newZ Tryz.prog 98 b fun c d=>ld .ptr ⟨a,0,none⟩ (World.drew d) fun e=>ld .ptr ⟨a,1,none⟩ (World.drew d) fun f=>ld .map ⟨a,2,none⟩ (World.drew d) fun (g:Option Nat)=>call Tryz.prog 136 ([.pointer e]) ([.one .ptr]) (World.drew d) fun h i=>held [fun j=>World.cell? j ⟨a,2,none⟩=some (.map g),fun k=>World.cell? k ⟨a,1,none⟩=some (.pointer f)] i<|call Tryz.prog 136 ([.pointer f]) ([.one .ptr]) i fun l m=>held [fun n=>World.cell? n ⟨a,2,none⟩=some (.map g)] m<|call Tryz.prog 137 ([.map g]) ([.one .map]) m fun (o:Option Nat) p=>st ⟨a,0,none⟩ ([.pointer h]) p fun q=>st ⟨a,1,none⟩ ([.pointer l]) q fun r=>st ⟨a,2,none⟩ ([.map o]) r fun s=>ldV 27 ⟨a,0,none⟩ s fun t=>chk (List.length t=27)<|st ⟨c,0,none⟩ t s fun u=>ldV 27 ⟨c,0,none⟩ u fun v=>K v u
def qke:List Ann:=[.n,.n,.o [[0,1,3,4,6,7,2,9,5,8,10,11,12,13,14]],.n]
theorem qix {w_ w K} (hF:qez w_ K w):call Tryz.prog 111 [.agg w_.toArray] [.raw] w K:=qad (an:=qke) Tryz.func111 hF
def qiO (d:Option Addr) (numbers:Sl) (pages:Sl) (K:Int->World->Prop) (w:World):Prop:=call Tryz.prog 122 ([.slice numbers.a numbers.len numbers.cap,.slice pages.a pages.len pages.cap]) ([.one .slice,.one (.int .i64)]) w fun (b:Sl×Int) c=>cond (!b.snd==0) (K b.snd c) (loop (Int) (fun e (f:Int) g=>cond (decide (f<(↑b.fst.len:Int))) (idx b.fst f 1 fun h=>ld .slice h g fun i=>idx pages f 1 fun j=>ld (.int .u32) j g fun (k:Int)=>call Tryz.prog 99 ([.int .u32 k,.int .u8 2,.slice i.a i.len i.cap]) ([.one .slice,.one (.int .i64)]) g fun (l:Sl×Int) m=>idx pages f 1 fun n=>ld (.int .u32) n m fun (o:Int)=>call Tryz.prog 28 ([.pointer d,.int .i64 (IntKind.wrap .i64 o),.slice l.fst.a l.fst.len l.fst.cap]) ([.one (.int .i64)]) m fun (p:Int) q=>cond (!p==0) (K p q) (e (IntKind.wrap .i64 (f+1)) q)) (call Tryz.prog 87 ([.pointer d]) ([.one (.int .i64)]) g fun (r:Int) s=>K r s)) 0 c)
def qoF:List Ann:=[.n,.n,.n,.n,.n,.n,.n,.l [(25,.one (.int .i64))],.n,.n,.n,.n,.n,.n,.n,.n,.n]
theorem qlZ {d numbers pages w K} (hF:qiO d numbers pages K w):call Tryz.prog 89 [.pointer d,.slice numbers.a numbers.len numbers.cap,.slice pages.a pages.len pages.cap] [.one (.int .i64)] w K:=qad (an:=qoF) Tryz.func89 hF
def qk6 (d:Option Addr) (s:List Value) (K:Int->World->Prop) (w:World):Prop:=new (Obj.cells (List.toArray s) 58) w fun b c=>ld (.int .u64) ⟨b,0,none⟩ (World.drew c) fun (e:Int)=>ldV 28 ⟨b,0,none⟩ (World.drew c) fun f=>call Tryz.prog 123 ([.agg (List.toArray f)]) ([.one .slice]) (World.drew c) fun g h=>held [fun i=>World.cell? i ⟨b,0,none⟩=some (.int .u64 e)] h<|call Tryz.prog 28 ([.pointer d,.int .i64 (IntKind.wrap .i64 (Int.tmod e 2)),.slice g.a g.len g.cap]) ([.one (.int .i64)]) h fun (j:Int) k=>cond (!j==0) (K j k) (call Tryz.prog 87 ([.pointer d]) ([.one (.int .i64)]) k fun (l:Int) m=>K l m)
def qqD:List Ann:=[.n,.n,.n,.o [[0,1,2,3,4,5,6,7,8]],.n,.n,.n]
theorem qoO {d s w K} (hF:qk6 d s K w):call Tryz.prog 90 [.pointer d,.agg s.toArray] [.one (.int .i64)] w K:=qad (an:=qqD) Tryz.func90 hF
end Go.Proofs.YtmbcedengdoamaaGreatDoor
end
section
set_option linter.unusedVariables false
set_option linter.unusedSimpArgs false
set_option linter.unusedSectionVars false
namespace Go.Pt
open Go
section
variable {α:Type} [DecidableEq α] {P:Program} {w:World} {kt:TypeId} {kv:α->Value}
def MapS (kv:α->Value) (w:World) (b:Nat) (f:List (α×Value)):Prop:=
 ∃ es c,w.heap[b]?=some (.map es c)/\Ents kv es.toList f/\(es.toList.map (·.born)).Pairwise (· < ·)/\∀ e∈es.toList,e.born<c
theorem MapS.at {b:Nat} {f:List (α×Value)} (h:MapS kv w b f):MapAt kv w b f:=by
 obtain ⟨es,c,hb,he,_⟩:=h
 exact ⟨es,c,hb,he⟩
theorem MapS.frame {w':World} {b:Nat} {S:List Nat} {f:List (α×Value)} (h:MapS kv w b f) (k:Fr S w w') (h1:b∉S):MapS kv w' b f:=by
 obtain ⟨es,c,hb,he⟩:=h
 exact ⟨es,c,by rw [k.block b (qac hb) h1]; exact hb,he⟩
theorem MapS.lt {b:Nat} {f:List (α×Value)} (h:MapS kv w b f):b<w.heap.size:=by
 obtain ⟨es,c,hb,_⟩:=h
 exact qac hb
theorem MapS.empty {b:Nat} (hb:w.heap[b]?=some (.map #[] 0)):MapS kv w b []:=⟨#[],0,hb,rfl,by simp,by simp⟩
theorem MapS.new {t et:TypeId} {v:Value} (ht:P.underlying t=some (.map kt et)) (K:KeyOk P kt kv) {b:Nat} {f:List (α×Value)} (h:MapS kv w b f) (x:α) (hx:posOf x f=none) :
  ∃ o,(Instr.mapUpdate t (.map (some b)) (kv x) v).run P w=.ok () (upd w b o)/\MapS kv (upd w b o) b (f++[(x,v)]):=by
 obtain ⟨es,c,hb,he,hs,hc⟩:=h
 refine ⟨.map (es.push ⟨kv x,v,c⟩) (c+1),?_,es.push ⟨kv x,v,c⟩,c+1,?_,?_,?_,?_⟩
 ·simp [Instr.mapUpdate,run_underlying ht,Go.MapKept.run_getObj_map hb,K.check,qaT K he,hx,Go.MapKept.run_setObj_map _ hb]
  rfl
 ·rw [qaG _ _ _ _ (qac hb),if_pos rfl]
 ·simp only [Ents] at he ⊢
  simp [he]
 ·rw [Array.toList_push,List.map_append,List.pairwise_append]
  refine ⟨hs,by simp,fun a ha b hb'=>?_⟩
  obtain ⟨e,he',rfl⟩:=List.mem_map.1 ha
  simp at hb'
  subst hb'
  exact hc e he'
 ·intro e he'
  rw [Array.toList_push] at he'
  rcases List.mem_append.1 he' with h1 | h1
  ·exact Nat.lt_succ_of_lt (hc e h1)
  ·simp at h1; subst h1; exact Nat.lt_succ_self _
theorem MapS.del {t et ty:TypeId} (ht:P.underlying t=some (.map kt et)) (K:KeyOk P kt kv) {b:Nat} {f:List (α×Value)} (h:MapS kv w b f) (x:α) :
  ∃ o,(Builtin.delete_ #[t,kt] ty #[.map (some b),kv x]).run P w=.ok (.tuple #[]) (upd w b o)/\MapS kv (upd w b o) b (match posOf x f with | some q=>f.eraseIdx q.1 | none=>f):=by
 obtain ⟨es,c,hb,he,hs,hc⟩:=h
 cases hp:posOf x f with
 | none=>
  refine ⟨.map es c,?_,es,c,?_,he,hs,hc⟩
  ·simp [Builtin.delete_,run_underlying ht,Go.MapKept.run_getObj_map hb,K.check,qaT K he,hp,Go.MapKept.run_setObj_map _ hb]
   rfl
  ·rw [qaG _ _ _ _ (qac hb),if_pos rfl]
 | some q=>
  have h1:(es.eraseIdxIfInBounds q.1).toList=es.toList.eraseIdx q.1:=by simp
  refine ⟨.map (es.eraseIdxIfInBounds q.1) c,?_,es.eraseIdxIfInBounds q.1,c,?_,?_,?_,?_⟩
  ·simp [Builtin.delete_,run_underlying ht,Go.MapKept.run_getObj_map hb,K.check,qaT K he,hp,Go.MapKept.run_setObj_map _ hb]
   rfl
  ·rw [qaG _ _ _ _ (qac hb),if_pos rfl]
  ·rw [h1]
   simp only [Ents] at he ⊢
   rw [qbt,he,<- qbt]
  ·rw [h1,qbt]
   exact hs.sublist (List.eraseIdx_sublist _ _)
  ·rw [h1]
   exact fun e he'=>hc e (List.mem_of_mem_eraseIdx he')
theorem qs6 {t et:TypeId} (ht:P.underlying t=some (.map kt et)) {b:Nat} {es:Array MapEntry} {c:Nat} (hb:w.heap[b]?=some (.map es c)) :
  (Instr.range t (.map (some b))).run P w=.ok (.pointer (some ⟨w.heap.size,0,none⟩)) (w.alloc (.mapIter (some b) c #[] c)):=
 run_range_map w t kt et b es c ht hb
theorem qvY {b it c:Nat} {es:Array MapEntry} {seen:Array Nat} {ty:TypeId} {Ke:World->Prop} {Ks:Value->Value->World->Prop} (hb:w.heap[b]?=some (.map es c)) (hi:w.heap[it]?=some (.mapIter (some b) c seen c)) (hc:∀ e∈es.toList,e.born<c)
  (ke:(∀ e∈es.toList,e.born∈seen.toList)->Ke w)
  (ks:∀ e∈es.toList,e.born∉seen.toList->∀ w',Same w w'->Ks e.key e.val (upd w' it (.mapIter (some b) c (seen.push e.born) c))) :
  nxt ((Instr.next (.pointer (some ⟨it,0,none⟩)) false ty).run P w) Ke Ks:=by
 have htest:(!seen.isEmpty&&!es.isEmpty&&es.all (fun x=>decide (x.born>=c)))=false:=next_test_false seen es c c hc (Nat.le_refl _)
 have hlt:=qac hi
 let L:=leftOf es seen
 have hmem:∀ x∈L.toList,x∈es.toList/\x.born∉seen.toList:=by
  intro x hx
  have:x∈es.toList.filter (fun e=>!seen.contains e.born):=by simpa [L,leftOf] using hx
  have h2:=List.mem_filter.1 this
  exact ⟨h2.1,by simpa using h2.2⟩
 have e1:L.filter (fun x=>decide (x.born<c))=L:=by
  apply Array.toList_inj.1
  rw [Array.toList_filter]
  exact List.filter_eq_self.2 fun x hx=>decide_eq_true (hc x (hmem x hx).1)
 have e2:L.filter (fun x=>decide (x.born>=c)) = #[]:=by
  apply Array.toList_inj.1
  rw [Array.toList_filter]
  exact List.filter_eq_nil_iff.2 fun x hx=>by have:=hc x (hmem x hx).1; simp; omega
 have hL:es.filter (fun e=>!seen.contains e.born)=L:=rfl
 have hsz:∀ x∈es.toList,x.born∉seen.toList->x∈L.toList:=fun x hx hn=>by
  have:x∈es.toList.filter (fun e=>!seen.contains e.born):=List.mem_filter.2 ⟨hx,by simpa using hn⟩
  simpa [L,leftOf] using this
 clear_value L
 unfold nxt
 by_cases h0:L.size=0
 ·left
  have hE:L = #[]:=Array.eq_empty_of_size_eq_zero h0
  refine ⟨w,?_,ke fun e he=>Classical.byContradiction fun hn=>?_⟩
  ·simp only [Instr.next,getObj,Sem.run_bind,Sem.run,hi,hb,Result.andThen,htest,Bool.false_eq_true,if_false,hL,e1,e2,Array.append_empty]
   subst hE
   simp [choose,Sem.run,Question.forced]
  ·have:=hsz e he hn
   rw [hE] at this
   simp at this
 ·right
  have hne:L.isEmpty=false:=by simp [Array.isEmpty,h0]
  have hch:∃ (j:Nat) (w1:World),j<L.size/\Same w w1/\(choose (Question.mapNext L.size)).run P w=.ok j w1:=by
   by_cases hf:L.size<=1
   ·exact ⟨0,w,by omega,.refl _,by simp [choose,Sem.run,Question.forced,hf]⟩
   ·exact ⟨_,w.drew,Nat.mod_lt _ (by omega),(Same.refl w).drew,by
     simp only [choose,Sem.run,Question.forced,decide_eq_true_eq,hf,if_false,Question.cut]
     rfl⟩
  obtain ⟨j,w1,hj,hal,hrun⟩:=hch
  have hmj:=hmem L[j] (by simp)
  have hi1:w1.heap[it]?=some (.mapIter (some b) c seen c):=by rw [hal.heap]; exact hi
  refine ⟨_,_,_,?_,ks L[j] hmj.1 hmj.2 w1 hal⟩
  simp only [Instr.next,getObj,Sem.run_bind,Sem.run,hi,hb,Result.andThen,htest,Bool.false_eq_true,if_false,hL,e1,e2,Array.append_empty,hne,Array.empty_append,Array.size_map,hrun,Array.getElem?_map,Array.getElem?_eq_getElem hj,Option.map_some,setObj,hi1]
  rfl
theorem qvP {b it c s:Nat} {es:Array MapEntry} {seen:Array Nat} {e:MapEntry} {K:Value->Value->World->Prop} (hb:w.heap[b]?=some (.map es c)) (hi:w.heap[it]?=some (.mapIter (some b) s (seen.push e.born) c)) (he:e∈es.toList) (hs:(es.toList.map (·.born)).Pairwise (· < ·))
  (k:K e.key e.val w):ent ((Instr.entry (.pointer (some ⟨it,0,none⟩))).run P w) K:=by
 have hn:(es.toList.map (·.born)).Nodup:=hs.imp (fun h=>Nat.ne_of_lt h)
 refine ⟨e.key,e.val,w,?_,k⟩
 have hf:es.find? (·.born==e.born)=some e:=by rw [<- Array.find?_toList]; exact find_born e es.toList hn he
 simp [Instr.entry,getObj,Sem.run,hi,hb,hf,Result.andThen]
end
end Go.Pt
end
section
set_option linter.unusedVariables false
set_option linter.unusedSimpArgs false
namespace Go.Proofs.YtmbcedengdoamaaGreatDoor
open Go Go.Pt
attribute [local irreducible] ld ldA ldV fld fldA newZ st new idx idxS idxA slc slcS slcP mkS chk nn call callV inv run runQ runU join loop held ext rng undefer s2a nxt ent IntKind.wrap
abbrev PGT:TypeId:=100
abbrev MLT:TypeId:=96
def look {β:Type} (n:Int):List (Int×β)->Option (Nat×β)
 | []=>none
 | p::r=>if n=p.1 then some (0,p.2) else (look n r).map fun q=>(q.1+1,q.2)
def setL {β:Type} (n:Int) (v:β) (l:List (Int×β)):List (Int×β):=match look n l with | some q=>l.set q.1 (n,v) | none=>l++[(n,v)]
def delL {β:Type} (n:Int) (l:List (Int×β)):List (Int×β):=match look n l with | some q=>l.eraseIdx q.1 | none=>l
theorem qci {β γ:Type} (g:β->γ) (n:Int):∀ l:List (Int×β),look n (l.map fun e=>(e.1,g e.2))=(look n l).map fun q=>(q.1,g q.2)
 | []=>rfl
 | p::r=>by
  simp only [List.map_cons,look]
  by_cases h:n=p.1
  ·simp [h]
  ·rw [if_neg h,if_neg h,qci g n r]
   cases look n r <;> rfl
theorem qbT (n:Int):∀ l:List (Int×Value),posOf n l=look n l
 | []=>rfl
 | p::r=>by simp only [posOf,look,qbT n r]
theorem qaI {β:Type} {n:Int}:∀ {l:List (Int×β)} {q:Nat×β},look n l=some q->l[q.1]?=some (n,q.2)/\(n,q.2)∈l
 | p::r,q,h=>by
  simp only [look] at h
  by_cases hp:n=p.1
  ·rw [if_pos hp] at h
   cases h
   subst hp
   exact ⟨rfl,by simp⟩
  ·rw [if_neg hp] at h
   obtain ⟨x,hx,rfl⟩:=Option.map_eq_some_iff.1 h
   obtain ⟨h1,h2⟩:=qaI hx
   exact ⟨by simpa using h1,List.mem_cons_of_mem _ h2⟩
theorem qcs {β:Type} {n:Int}:∀ {l:List (Int×β)},look n l=none↔n∉l.map (·.1)
 | []=>by simp [look]
 | p::r=>by
  simp only [look,List.map_cons,List.mem_cons,not_or]
  by_cases hp:n=p.1
  ·simp [hp]
  ·rw [if_neg hp,Option.map_eq_none_iff,qcs (l:=r)]
   simp [hp]
theorem qii {β γ:Type} (g:β->γ) (n:Int) (v:β) (l:List (Int×β)):(setL n v l).map (fun e=>(e.1,g e.2))=setL n (g v) (l.map fun e=>(e.1,g e.2)):=by
 unfold setL
 rw [qci]
 cases look n l with
 | none=>simp
 | some q=>simp [List.map_set]
theorem qpE {β γ:Type} (g:β->γ) (n:Int) (l:List (Int×β)):(delL n l).map (fun e=>(e.1,g e.2))=delL n (l.map fun e=>(e.1,g e.2)):=by
 unfold delL
 rw [qci]
 cases look n l with
 | none=>rfl
 | some q=>simp only [Option.map_some]; exact qbt _ l q.1
theorem qiq {β:Type} {n:Int} {v:β} {l:List (Int×β)} {e:Int×β} (h:e∈setL n v l):e∈l\/e=(n,v):=by
 unfold setL at h
 split at h
 ·exact List.mem_or_eq_of_mem_set h
 ·rcases List.mem_append.1 h with h | h
  ·exact .inl h
  ·exact .inr (by simpa using h)
theorem qqh {β:Type} {n:Int} {l:List (Int×β)} {e:Int×β} (h:e∈delL n l):e∈l:=by
 unfold delL at h
 split at h
 ·exact List.mem_of_mem_eraseIdx h
 ·exact h
theorem qhL {t et:TypeId} {v:Value} {w:World} (ht:Tryz.prog.underlying t=some (.map 29 et)) {b:Nat} {f:List (Int×Value)} (h:MapS u32V w b f) (x:Int) :
  ∃ o,(Instr.mapUpdate t (.map (some b)) (u32V x) v).run Tryz.prog w=.ok () (upd w b o)/\MapS u32V (upd w b o) b (setL x v f):=by
 have K:=qcA
 cases hp:posOf x f with
 | none=>
  obtain ⟨o,h1,h2⟩:=MapS.new ht K h x (v:=v) hp
  refine ⟨o,h1,?_⟩
  rw [qbT] at hp
  rw [setL,hp]
  exact h2
 | some q=>
  obtain ⟨es,c,hb,he,hs,hc⟩:=h
  have hq:=hp
  rw [qbT] at hq
  obtain ⟨h1,_⟩:=qaI hq
  have he':=he
  simp only [Ents] at he'
  have hi:es[q.1]?.map (·.key)=some (u32V x):=by
   have:=congrArg (·[q.1]?) he'
   simp only [List.getElem?_map,h1,Option.map_some] at this
   rw [<- Array.getElem?_toList]
   cases hh:es.toList[q.1]? with
   | none=>rw [hh] at this; cases this
   | some e=>rw [hh] at this; simp at this; simp [this.1]
  refine ⟨.map (es.modify q.1 fun e=>{ e with key:=u32V x,val:=v }) c,?_,es.modify q.1 fun e=>{ e with key:=u32V x,val:=v },c,?_,?_,?_,?_⟩
  ·simp [Instr.mapUpdate,run_underlying ht,Go.MapKept.run_getObj_map hb,K.check,qaT K he,hp,hi,Instr.keyThatStays,Instr.sameBits,Go.MapKept.run_setObj_map _ hb]
   rfl
  ·rw [qaG _ _ _ _ (qac hb),if_pos rfl]
  ·rw [setL,hq]
   show ((es.modify q.1 _).toList).map _=(f.set q.1 (x,v)).map _
   rw [Array.toList_modify]
   apply List.ext_getElem?
   intro j
   have hj:=congrArg (·[j]?) he'
   simp only [List.getElem?_map] at hj
   rw [List.getElem?_map,List.getElem?_map,List.getElem?_modify,List.getElem?_set]
   by_cases hqj:q.1=j
   ·subst hqj
    have hlt:=(List.getElem?_eq_some_iff.1 h1).1
    rw [h1] at hj
    cases hh:es.toList[q.1]? with
    | none=>rw [hh] at hj; cases hj
    | some e=>simp [hlt]
   ·simp only [hqj,if_false]
    rw [<- hj]
    cases es.toList[j]? <;> rfl
  ·have e:(es.modify q.1 fun e=>{ e with key:=u32V x,val:=v }).toList.map (·.born)=es.toList.map (·.born):=by
    rw [Array.toList_modify]
    apply List.ext_getElem?
    intro j
    rw [List.getElem?_map,List.getElem?_map,List.getElem?_modify]
    by_cases hqj:q.1=j
    ·subst hqj; cases es.toList[q.1]? <;> simp
    ·simp [hqj]
   rw [e]; exact hs
  ·intro e he2
   rw [Array.toList_modify] at he2
   obtain ⟨j,hj⟩:=List.mem_iff_getElem?.1 he2
   rw [List.getElem?_modify] at hj
   by_cases hqj:q.1=j
   ·subst hqj
    cases hh:es.toList[q.1]? with
    | none=>rw [hh] at hj; simp at hj
    | some e0=>
     rw [hh] at hj
     simp at hj
     subst hj
     exact hc e0 (List.mem_of_getElem? hh)
   ·simp [hqj] at hj
    exact hc e (List.mem_of_getElem? (by rw [Array.getElem?_toList]; exact hj))
section
structure PgM where
 sup:Sup
 lists:List Int
 named:List Int
 turn:Int
 over:Bool
 free:List Int
 deferred:List Int
 fresh:List (Int×Int×List Int)
 roots:List Int
abbrev Leaf:=Int×Sl×List Int
def leafV (x:Leaf):Value:=.agg #[.int .u8 x.1,.slice x.2.1.a x.2.1.len x.2.1.cap]
def pgRest (sl sn:Sl) (turn:Int) (over:Bool) (fb defb mb:Nat):List Value:=
 [.slice sl.a sl.len sl.cap,.slice sn.a sn.len sn.cap,.int .i64 turn,.bool over,.pointer (some ⟨fb,0,none⟩),.pointer (some ⟨defb,0,none⟩),.map (some mb)]
def pgCells (db:Option Addr) (sup:Sup) (sl sn:Sl) (turn:Int) (over:Bool) (fb defb mb:Nat) (roots:List Int):Array Value:=
 ((.pointer db::supV sup.1 sup.2)++pgRest sl sn turn over fb defb mb++roots.map (Value.int .u32)).toArray
section
variable {db:Option Addr} {sup:Sup} {sl sn:Sl} {turn:Int} {over:Bool} {fb defb mb:Nat} {roots:List Int}
theorem qa5 (hl:sup.2.length=27):(Value.pointer db::supV sup.1 sup.2).length=29:=by rw [List.length_cons,qay hl]
theorem qnn (hl:sup.2.length=27):(pgCells db sup sl sn turn over fb defb mb roots).size=36+roots.length:=by
 rw [pgCells,List.size_toArray,List.length_append,List.length_append,qa5 hl,List.length_map]; rfl
theorem qsg:(pgCells db sup sl sn turn over fb defb mb roots)[0]?=some (.pointer db):=rfl
theorem qp4:(pgCells db sup sl sn turn over fb defb mb roots)[1]?=some (.int .u64 sup.1):=rfl
theorem qmv (hl:sup.2.length=27) (n:Nat) (h:n<27):(pgCells db sup sl sn turn over fb defb mb roots)[n+2]?=some (.int .u32 (sup.2.getD n 0)):=by
 rw [pgCells,List.getElem?_toArray,List.append_assoc,List.getElem?_append_left (by rw [qa5 hl]; omega),List.getElem?_cons_succ]
 have:=qb0 (q:=sup.1) (t:=sup.2) n (by omega)
 rw [List.getElem?_toArray] at this
 exact this
theorem qh9 (hl:sup.2.length=27) (j:Nat) (h:j<7):(pgCells db sup sl sn turn over fb defb mb roots)[29+j]?=(pgRest sl sn turn over fb defb mb)[j]?:=by
 rw [pgCells,List.getElem?_toArray,List.append_assoc,List.getElem?_append_right (by rw [qa5 hl]; omega),qa5 hl,Nat.add_sub_cancel_left,List.getElem?_append_left (by exact h)]
theorem qh4 (hl:sup.2.length=27):(pgCells db sup sl sn turn over fb defb mb roots)[29]?=some (.slice sl.a sl.len sl.cap):=qh9 hl 0 (by decide)
theorem qul (hl:sup.2.length=27):(pgCells db sup sl sn turn over fb defb mb roots)[30]?=some (.slice sn.a sn.len sn.cap):=qh9 hl 1 (by decide)
theorem qnr (hl:sup.2.length=27):(pgCells db sup sl sn turn over fb defb mb roots)[31]?=some (.int .i64 turn):=qh9 hl 2 (by decide)
theorem qc4 (hl:sup.2.length=27):(pgCells db sup sl sn turn over fb defb mb roots)[32]?=some (.bool over):=qh9 hl 3 (by decide)
theorem qd5 (hl:sup.2.length=27):(pgCells db sup sl sn turn over fb defb mb roots)[33]?=some (.pointer (some ⟨fb,0,none⟩)):=qh9 hl 4 (by decide)
theorem qjt (hl:sup.2.length=27):(pgCells db sup sl sn turn over fb defb mb roots)[34]?=some (.pointer (some ⟨defb,0,none⟩)):=qh9 hl 5 (by decide)
theorem qbJ (hl:sup.2.length=27):(pgCells db sup sl sn turn over fb defb mb roots)[35]?=some (.map (some mb)):=qh9 hl 6 (by decide)
end
structure Rows (F:List Nat) (w:World) (sl sn:Sl) (lists named:List Int) (fs:List (Int×Leaf)):Prop where
 lists:Rd F w sl lists
 named:Rd F w sn named
 bodies:∀ e∈fs,RdB F w e.2.2.1 e.2.2.2
theorem Rows.frame {F F':List Nat} {w w':World} {sl sn:Sl} {lists named:List Int} {fs:List (Int×Leaf)} (h:Rows F w sl sn lists named fs) (f:Fr F w w') (hF:∀ b∈F',b∈F\/w.heap.size<=b):Rows F' w' sl sn lists named fs:=
 ⟨h.lists.frame f hF,h.named.frame f hF,fun e he=>(h.bodies e he).frame f hF⟩
structure PgX (w:World) (X:List Nat) (pb:Nat) (db:Option Addr) (M:PgM) (fb defb mb:Nat) (sl sn:Sl) (F1 F2:List Nat) (fs:List (Int×Leaf)):Prop where
 cell:w.heap[pb]?=some (.cells (pgCells db M.sup sl sn M.turn M.over fb defb mb M.roots) PGT (0,0))
 free:PoolAt w fb F1 M.free
 deferred:PoolAt w defb F2 M.deferred
 map:MapS u32V w mb (fs.map fun e=>(e.1,leafV e.2))
 fresh:M.fresh=fs.map fun e=>(e.1,e.2.1,e.2.2.2)
 rows:Rows (X++pb::mb::(F1++F2)) w sl sn M.lists M.named fs
 xlt:∀ b∈X,b<w.heap.size
 xsep:∀ b∈X,b∉pb::mb::(F1++F2)
 sep:pb≠mb/\(∀ b∈F1,b≠pb/\b≠mb/\b∉F2)/\(∀ b∈F2,b≠pb/\b≠mb)
 suplen:M.sup.2.length=27
 rootlen:M.roots.length=24
def PagerAt (w:World) (X:List Nat) (pb:Nat) (db:Option Addr) (F:List Nat) (M:PgM):Prop:=
 ∃ fb defb mb sl sn F1 F2 fs,F=pb::mb::(F1++F2)/\PgX w X pb db M fb defb mb sl sn F1 F2 fs
theorem PgX.lt_mb {w:World} {X:List Nat} {pb:Nat} {db:Option Addr} {M:PgM} {fb defb mb:Nat} {sl sn:Sl} {F1 F2:List Nat} {fs:List (Int×Leaf)} (h:PgX w X pb db M fb defb mb sl sn F1 F2 fs):mb<w.heap.size:=by
 exact h.map.lt
theorem PgX.lt {w:World} {X:List Nat} {pb:Nat} {db:Option Addr} {M:PgM} {fb defb mb:Nat} {sl sn:Sl} {F1 F2:List Nat} {fs:List (Int×Leaf)} (h:PgX w X pb db M fb defb mb sl sn F1 F2 fs):∀ b∈pb::mb::(F1++F2),b<w.heap.size:=by
 intro b hb
 rcases List.mem_cons.1 hb with rfl | hb
 ·exact qac h.cell
 rcases List.mem_cons.1 hb with rfl | hb
 ·exact h.lt_mb
 rcases List.mem_append.1 hb with hb | hb
 ·exact h.free.lt b hb
 ·exact h.deferred.lt b hb
theorem PagerAt.lt {w:World} {X:List Nat} {pb:Nat} {db:Option Addr} {F:List Nat} {M:PgM} (h:PagerAt w X pb db F M):∀ b∈F,b<w.heap.size:=by
 obtain ⟨fb,defb,mb,sl,sn,F1,F2,fs,rfl,hx⟩:=h
 exact hx.lt
theorem PgX.frame {w w':World} {S X:List Nat} {pb:Nat} {db:Option Addr} {M:PgM} {fb defb mb:Nat} {sl sn:Sl} {F1 F2:List Nat} {fs:List (Int×Leaf)} (h:PgX w X pb db M fb defb mb sl sn F1 F2 fs) (f:Fr S w w') (hS:∀ b∈pb::mb::(F1++F2),b∉S)
  (hr:Rows (X++pb::mb::(F1++F2)) w' sl sn M.lists M.named fs):PgX w' X pb db M fb defb mb sl sn F1 F2 fs where
 cell:=by rw [f.block pb (qac h.cell) (hS pb (by simp))]; exact h.cell
 free:=h.free.frame f fun b hb=>hS b (by simp [hb])
 deferred:=h.deferred.frame f fun b hb=>hS b (by simp [hb])
 map:=h.map.frame f (hS mb (by simp))
 fresh:=h.fresh
 rows:=hr
 xlt:=fun b hb=>Nat.lt_of_lt_of_le (h.xlt b hb) f.size
 xsep:=h.xsep
 sep:=h.sep
 suplen:=h.suplen
 rootlen:=h.rootlen
theorem PgX.frame0 {w w':World} {X:List Nat} {pb:Nat} {db:Option Addr} {M:PgM} {fb defb mb:Nat} {sl sn:Sl} {F1 F2:List Nat} {fs:List (Int×Leaf)} (h:PgX w X pb db M fb defb mb sl sn F1 F2 fs) (f:Fr [] w w'):PgX w' X pb db M fb defb mb sl sn F1 F2 fs:=
 h.frame f (by simp) (h.rows.frame (f.mono (fun b hb=>by cases hb)) (fun b hb=>.inl hb))
theorem PagerAt.frame0 {w w':World} {X:List Nat} {pb:Nat} {db:Option Addr} {F:List Nat} {M:PgM} (h:PagerAt w X pb db F M) (f:Fr [] w w'):PagerAt w' X pb db F M:=by
 obtain ⟨fb,defb,mb,sl,sn,F1,F2,fs,rfl,hx⟩:=h
 exact ⟨fb,defb,mb,sl,sn,F1,F2,fs,rfl,hx.frame0 f⟩
theorem qoT {w:World} {pb mb:Nat} {F1 F1' F2:List Nat} (n1:∀ b∈F1',b∈F1\/w.heap.size<=b):∀ b∈pb::mb::(F1'++F2),b∈pb::mb::(F1++F2)\/w.heap.size<=b:=fun b hb=>by
 simp only [List.mem_cons,List.mem_append] at hb ⊢
 rcases hb with hb | hb | hb | hb
 ·exact .inl (.inl hb)
 ·exact .inl (.inr (.inl hb))
 ·rcases n1 b hb with h1 | h1
  ·exact .inl (.inr (.inr (.inl h1)))
  ·exact .inr h1
 ·exact .inl (.inr (.inr (.inr hb)))
theorem qrU {w:World} {pb mb:Nat} {F1 F2 F2':List Nat} (n1:∀ b∈F2',b∈F2\/w.heap.size<=b):∀ b∈pb::mb::(F1++F2'),b∈pb::mb::(F1++F2)\/w.heap.size<=b:=fun b hb=>by
 simp only [List.mem_cons,List.mem_append] at hb ⊢
 rcases hb with hb | hb | hb | hb
 ·exact .inl (.inl hb)
 ·exact .inl (.inr (.inl hb))
 ·exact .inl (.inr (.inr (.inl hb)))
 ·rcases n1 b hb with h1 | h1
  ·exact .inl (.inr (.inr (.inr h1)))
  ·exact .inr h1
theorem qka {w:World} {X F F':List Nat} (n:∀ b∈F',b∈F\/w.heap.size<=b):∀ b∈X++F',b∈X++F\/w.heap.size<=b:=fun b hb=>by
 rcases List.mem_append.1 hb with h | h
 ·exact .inl (List.mem_append_left _ h)
 ·rcases n b h with h | h
  ·exact .inl (List.mem_append_right _ h)
  ·exact .inr h
theorem quJ {w:World} {X F F':List Nat} (hl:∀ b∈X,b<w.heap.size) (hs:∀ b∈X,b∉F) (n:∀ b∈F',b∈F\/w.heap.size<=b):∀ b∈X,b∉F':=fun b hb h=>by
 rcases n b h with h | h
 ·exact hs b hb h
 ·have:=hl b hb; omega
theorem PgX.setFree {w w':World} {X:List Nat} {pb:Nat} {db:Option Addr} {M:PgM} {fb defb mb:Nat} {sl sn:Sl} {F1 F1' F2:List Nat} {fs:List (Int×Leaf)} {l:List Int} (h:PgX w X pb db M fb defb mb sl sn F1 F2 fs) (f:Fr F1 w w') (hp:PoolAt w' fb F1' l) (hn:∀ b∈F1',b∈F1\/w.heap.size<=b) :
  PgX w' X pb db { M with free:=l } fb defb mb sl sn F1' F2 fs where
 cell:=by rw [f.block pb (qac h.cell) (fun hb=>(h.sep.2.1 pb hb).1 rfl)]; exact h.cell
 free:=hp
 deferred:=h.deferred.frame f fun b hb hb1=>(h.sep.2.1 b hb1).2.2 hb
 map:=h.map.frame f (fun hb=>(h.sep.2.1 mb hb).2.1 rfl)
 fresh:=h.fresh
 rows:=h.rows.frame (f.mono fun b hb _=>by simp [hb]) (qka (qoT hn))
 xlt:=fun b hb=>Nat.lt_of_lt_of_le (h.xlt b hb) f.size
 xsep:=quJ h.xlt h.xsep (qoT hn)
 sep:=⟨h.sep.1,fun b hb=>by
  rcases hn b hb with h1 | h1
  ·exact h.sep.2.1 b h1
  ·have l1:=qac h.cell
   have l2:=h.lt_mb
   exact ⟨by omega,by omega,fun h2=>by have:=h.deferred.lt b h2; omega⟩,h.sep.2.2⟩
 suplen:=h.suplen
 rootlen:=h.rootlen
theorem PgX.setDef {w w':World} {X:List Nat} {pb:Nat} {db:Option Addr} {M:PgM} {fb defb mb:Nat} {sl sn:Sl} {F1 F2 F2':List Nat} {fs:List (Int×Leaf)} {l:List Int} (h:PgX w X pb db M fb defb mb sl sn F1 F2 fs) (f:Fr F2 w w') (hp:PoolAt w' defb F2' l) (hn:∀ b∈F2',b∈F2\/w.heap.size<=b) :
  PgX w' X pb db { M with deferred:=l } fb defb mb sl sn F1 F2' fs where
 cell:=by rw [f.block pb (qac h.cell) (fun hb=>(h.sep.2.2 pb hb).1 rfl)]; exact h.cell
 free:=h.free.frame f fun b hb hb1=>(h.sep.2.1 b hb).2.2 hb1
 deferred:=hp
 map:=h.map.frame f (fun hb=>(h.sep.2.2 mb hb).2 rfl)
 fresh:=h.fresh
 rows:=h.rows.frame (f.mono fun b hb _=>by simp [hb]) (qka (qrU hn))
 xlt:=fun b hb=>Nat.lt_of_lt_of_le (h.xlt b hb) f.size
 xsep:=quJ h.xlt h.xsep (qrU hn)
 sep:=⟨h.sep.1,fun b hb=>⟨(h.sep.2.1 b hb).1,(h.sep.2.1 b hb).2.1,fun h2=>by
  rcases hn b h2 with h1 | h1
  ·exact (h.sep.2.1 b hb).2.2 h1
  ·have:=h.free.lt b hb; omega⟩,fun b hb=>by
  rcases hn b hb with h1 | h1
  ·exact h.sep.2.2 b h1
  ·have l1:=qac h.cell
   have l2:=h.lt_mb
   exact ⟨by omega,by omega⟩⟩
 suplen:=h.suplen
 rootlen:=h.rootlen
theorem PgX.setMap {w:World} {o:Obj} {X:List Nat} {pb:Nat} {db:Option Addr} {M:PgM} {fb defb mb:Nat} {sl sn:Sl} {F1 F2:List Nat} {fs fs':List (Int×Leaf)} (h:PgX w X pb db M fb defb mb sl sn F1 F2 fs) (hm:MapS u32V (upd w mb o) mb (fs'.map fun e=>(e.1,leafV e.2)))
  (hb:∀ e∈fs',e∈fs\/RdB (X++pb::mb::(F1++F2)) w e.2.2.1 e.2.2.2) :
  PgX (upd w mb o) X pb db { M with fresh:=fs'.map fun e=>(e.1,e.2.1,e.2.2.2) } fb defb mb sl sn F1 F2 fs':=by
 have f:Fr [mb] w (upd w mb o):=qf3 h.lt_mb o
 have f':Fr (X++pb::mb::(F1++F2)) w (upd w mb o):=f.mono fun b hb _=>by simp only [List.mem_singleton] at hb; subst hb; simp
 have hr:=h.rows.frame f' (F':=X++pb::mb::(F1++F2)) (fun b hb=>.inl hb)
 exact {
  cell:=by rw [f.block pb (qac h.cell) (by simpa using h.sep.1)]; exact h.cell
  free:=h.free.frame f fun b hb=>by simpa using (h.sep.2.1 b hb).2.1
  deferred:=h.deferred.frame f fun b hb=>by simpa using (h.sep.2.2 b hb).2
  map:=hm
  fresh:=rfl
  rows:=⟨hr.lists,hr.named,fun e he=>by
   rcases hb e he with h1 | h1
   ·exact hr.bodies e h1
   ·exact h1.frame f' (fun b hb=>.inl hb)⟩
  xlt:=fun b hb=>Nat.lt_of_lt_of_le (h.xlt b hb) f.size
  xsep:=h.xsep
  sep:=h.sep
  suplen:=h.suplen
  rootlen:=h.rootlen }
theorem PagerAt.frameX {w w':World} {X X':List Nat} {pb:Nat} {db:Option Addr} {F:List Nat} {M:PgM} (h:PagerAt w X pb db F M) (f:Fr X w w') (hx:∀ b∈X',b<w'.heap.size) (hX:∀ b∈X',b∈X\/w.heap.size<=b):PagerAt w' X' pb db F M:=by
 obtain ⟨fb,defb,mb,sl,sn,F1,F2,fs,rfl,h⟩:=h
 have hF:∀ b∈pb::mb::(F1++F2),b∉X:=fun b hb hx=>h.xsep b hx hb
 have hx1:=h.frame (w':=w') f hF (h.rows.frame (f.mono fun b hb _=>List.mem_append_left _ hb) (fun b hb=>.inl hb))
 refine ⟨fb,defb,mb,sl,sn,F1,F2,fs,rfl,{ hx1 with rows:=h.rows.frame (f.mono fun b hb _=>List.mem_append_left _ hb) (fun b hb=>?_),xlt:=hx,xsep:=fun b hb hm=>?_ }⟩
 ·rcases List.mem_append.1 hb with hb | hb
  ·rcases hX b hb with hb | hb
   ·exact .inl (List.mem_append_left _ hb)
   ·exact .inr hb
  ·exact .inl (List.mem_append_right _ hb)
 ·rcases hX b hb with hb | hb
  ·exact h.xsep b hb hm
  ·have:=h.lt b hm; omega
theorem PagerAt.sep {w:World} {X:List Nat} {pb:Nat} {db:Option Addr} {F:List Nat} {M:PgM} (h:PagerAt w X pb db F M):∀ b∈X,b∉F:=by
 obtain ⟨fb,defb,mb,sl,sn,F1,F2,fs,rfl,h⟩:=h
 exact h.xsep
end
section
theorem quP {S:List Nat} {w:World} {s:Sl} {l:List Int} {n:Int} {K:Int->World->Prop} (h:Rd S w s l) (hl:l.length<=1000000) (hk:∀ x:Int,(decide (x>=0)=decide (n∈l))->K x w) :
  call Tryz.prog 128 [.slice s.a s.len s.cap,.int .u32 n] [.one (.int .i64)] w K:=by
 refine ql4 (s:=s) ?_
 unfold qiy
 have hlen:=h.1
 refine qag (fun x w'=>w'=w/\∃ i:Nat,x=i/\i<=l.length/\n∉l.take i) (fun x _=>((l.length:Int)-x).toNat) ⟨rfl,0,rfl,by omega,by simp⟩ ?_
 rintro x w' ⟨rfl,i,rfl,hi,hno⟩ X hX
 refine qaa (fun hc=>?_) (fun hc=>?_)
 ·have hil:i<l.length:=by have:=of_decide_eq_true hc; omega
  refine Rd.at h i rfl (List.getElem?_eq_getElem hil) ?_
  refine qaa (fun hc=>?_) (fun hc=>?_)
  ·have e:n=l[i]:=by simpa using hc
   refine hk _ ?_
   rw [decide_eq_true (show (i:Int)>=0 by omega),decide_eq_true (by rw [e]; exact List.getElem_mem hil)]
  ·have e:n≠l[i]:=by simpa using hc
   rw [wi' _ (by omega)]
   refine hX _ _ ⟨rfl,i+1,by simp,by omega,?_⟩ (by omega)
   rw [List.take_succ_eq_append_getElem hil]
   simp only [List.mem_append,List.mem_singleton,not_or]
   exact ⟨hno,e⟩
 ·have:i=l.length:=by have:=of_decide_eq_false hc; omega
  subst this
  rw [List.take_length] at hno
  refine hk _ ?_
  rw [decide_eq_false (by decide),decide_eq_false hno]
theorem qqu {S:List Nat} {w:World} {s:Sl} {l:List Int} {n:Int} {K:Bool->World->Prop} (h:Rd S w s l) (hl:l.length<=1000000) (hk:K (decide (n∈l)) w) :
  call Tryz.prog 95 [.slice s.a s.len s.cap,.int .u32 n] [.one .bool] w K:=by
 refine qkd (s:=s) ?_
 unfold qf5
 refine quP h hl fun x hx=>?_
 rw [hx]
 exact hk
theorem qvX:∀ w,(zeroValue 105).run Tryz.prog w=.ok (.agg #[.int .u8 0,.slice none 0 0]) w:=fun w=>by kernel_rfl
theorem qnA:Tryz.prog.underlying MLT=some (.map 29 105):=by kernel_rfl
theorem qkn {w:World} {mb:Nat} {fs:List (Int×Leaf)} {n:Int} {K:((Int×Sl)×Bool)->Prop} (h:MapAt u32V w mb (fs.map fun e=>(e.1,leafV e.2)))
  (hs:∀ q,look n fs=some q->K ((q.2.1,q.2.2.1),true)) (hn:look n fs=none->K ((0,⟨none,0,0⟩),false)) :
  runQ [Ty1.agg [Cell.int .u8,Cell.slice],Ty1.one Cell.bool] (fun w'=>(Instr.lookup MLT (.map (some mb)) (.int .u32 n) true).run Tryz.prog w') w K:=by
 have:=qo9 (P:=Tryz.prog) qnA qvX qcA h n
 rw [qbT,qci] at this
 cases hl:look n fs with
 | none=>
  rw [hl] at this
  exact qax (ts:=[Ty1.agg [Cell.int .u8,Cell.slice],Ty1.one Cell.bool]) ((0,⟨none,0,0⟩),false) this (hn hl)
 | some q=>
  rw [hl] at this
  exact qax (ts:=[Ty1.agg [Cell.int .u8,Cell.slice],Ty1.one Cell.bool]) ((q.2.1,q.2.2.1),true) this (hs q hl)
section
variable {w:World} {X:List Nat} {pb:Nat} {db:Option Addr} {F:List Nat} {M:PgM}
theorem qrv {K:Int->World->Prop} (h:PagerAt w X pb db F M) (hk:K M.sup.1 w):call Tryz.prog 25 [.pointer (some ⟨pb,0,none⟩)] [.one (.int .u64)] w K:=by
 obtain ⟨fb,defb,mb,sl,sn,F1,F2,fs,rfl,hx⟩:=h
 refine qjP (p:=some ⟨pb,0,none⟩) ?_
 unfold qfF
 exact qab (qae (c:=.int .u64) hx.cell M.sup.1 qp4 hk)
theorem qut {K:Int->World->Prop} (h:PagerAt w X pb db F M) (hk:K M.free.length w):call Tryz.prog 11 [.pointer (some ⟨pb,0,none⟩)] [.one (.int .i64)] w K:=by
 obtain ⟨fb,defb,mb,sl,sn,F1,F2,fs,rfl,hx⟩:=h
 refine qiX (p:=some ⟨pb,0,none⟩) ?_
 unfold qe6
 refine qab (qae (c:=.ptr) hx.cell (some ⟨fb,0,none⟩) (qd5 hx.suplen) ?_)
 exact qrj hx.free hk
theorem qlr {K:Sl->World->Prop} (h:PagerAt w X pb db F M) (hl:M.free.length<=1000000) (hk:∀ s w',Told w w' s M.free->Fr [] w w'->K s w'):call Tryz.prog 9 [.pointer (some ⟨pb,0,none⟩)] [.one .slice] w K:=by
 obtain ⟨fb,defb,mb,sl,sn,F1,F2,fs,rfl,hx⟩:=h
 refine qi3 (p:=some ⟨pb,0,none⟩) ?_
 unfold qfb
 refine qab (qae (c:=.ptr) hx.cell (some ⟨fb,0,none⟩) (qd5 hx.suplen) ?_)
 exact qko hx.free hl hk
theorem qpe {K:Sl->World->Prop} (h:PagerAt w X pb db F M) (hl:M.deferred.length<=1000000) (hk:∀ s w',Told w w' s M.deferred->Fr [] w w'->K s w'):call Tryz.prog 33 [.pointer (some ⟨pb,0,none⟩)] [.one .slice] w K:=by
 obtain ⟨fb,defb,mb,sl,sn,F1,F2,fs,rfl,hx⟩:=h
 refine qgf (p:=some ⟨pb,0,none⟩) ?_
 unfold qda
 refine qab ?_
 simp only [Addr.add_mk]
 refine qae (c:=.ptr) hx.cell (some ⟨defb,0,none⟩) (qjt hx.suplen) ?_
 exact qko hx.deferred hl hk
def usedV (M:PgM) (n:Int):Bool:=!(decide (n<2)||decide (n>=M.sup.2.getD 0 0)||decide (n∈M.lists)||decide (n∈M.free)||decide (n∈M.deferred))&&(look n M.fresh).isNone
theorem qoY {n:Int} {K:Bool->World->Prop} (h:PagerAt w X pb db F M) (hl:M.lists.length<=1000000) (hk:∀ w',Fr [] w w'->K (usedV M n) w'):call Tryz.prog 45 [.pointer (some ⟨pb,0,none⟩),.int .u32 n] [.one .bool] w K:=by
 obtain ⟨fb,defb,mb,sl,sn,F1,F2,fs,rfl,hx⟩:=h
 refine qi0 (p:=some ⟨pb,0,none⟩) ?_
 unfold qfe
 refine qaf (fun b w'=>b=(decide (n<2)||decide (n>=M.sup.2.getD 0 0)||decide (n∈M.lists)||decide (n∈M.free)||decide (n∈M.deferred))/\w'=w) ?_ ?_
 ·refine qaa (fun hc=>⟨by rw [hc]; rfl,rfl⟩) (fun hc=>?_)
  refine qab ?_
  simp only [Addr.add_mk]
  refine qae (c:=.int .u32) hx.cell (M.sup.2.getD 0 0) (qmv hx.suplen 0 (by decide)) ?_
  refine qaa (fun hc2=>⟨by rw [hc,hc2]; rfl,by trivial⟩) (fun hc2=>?_)
  refine qab (qae (c:=.slice) hx.cell sl (qh4 hx.suplen) ?_)
  refine qqu hx.rows.lists hl ?_
  refine qaa (fun hc3=>⟨by rw [hc,hc2,hc3]; rfl,by trivial⟩) (fun hc3=>?_)
  refine qab (qae (c:=.ptr) hx.cell (some ⟨fb,0,none⟩) (qd5 hx.suplen) ?_)
  refine qpj hx.free ?_
  refine qaa (fun hc4=>⟨by rw [hc,hc2,hc3,hc4]; rfl,by trivial⟩) (fun hc4=>?_)
  refine qab ?_
  refine qae (c:=.ptr) hx.cell (some ⟨defb,0,none⟩) (qjt hx.suplen) ?_
  refine qpj hx.deferred ⟨by rw [hc,hc2,hc3,hc4]; rfl,by trivial⟩
 rintro b w' ⟨rfl,rfl⟩
 have hfr:(look n M.fresh).isNone=(look n fs).isNone:=by
  rw [hx.fresh,qci (fun x:Leaf=>(x.1,x.2.2))]
  cases look n fs <;> rfl
 refine qaa (fun hc=>?_) (fun hc=>?_)
 ·have:=hk w' (.refl _ _)
  rw [usedV,hc] at this
  exact this
 refine qab ?_
 simp only [Addr.add_mk]
 refine qae (c:=.map) hx.cell (some mb) (qbJ hx.suplen) ?_
 refine qkn hx.map.at (fun q hq=>?_) (fun hq=>?_)
 ·refine Own.new' (Own.start [] w') fun r w1 e1 f1 ho=>?_
  refine Own.st ho 0 rfl _ rfl rfl rfl fun w2 ho _=>?_
  have:=hk w2 ho.fr
  rw [usedV,hc,hfr,hq] at this
  exact this
 ·refine Own.new' (Own.start [] w') fun r w1 e1 f1 ho=>?_
  refine Own.st ho 0 rfl _ rfl rfl rfl fun w2 ho _=>?_
  have:=hk w2 ho.fr
  rw [usedV,hc,hfr,hq] at this
  exact this
def makeV (M:PgM) (kind:Int) (body:List Int):(Int×Int)×PgM:=
 if M.over then ((0,7),M) else if body.length>500 then ((0,3),M) else
 match M.free with
 | []=>((0,6),M)
 | n::r=>((n,0),{ M with free:=r,fresh:=setL n (kind,body) M.fresh })
theorem qp5 {kind:Int} {s:Sl} {body:List Int} {K:Int×Int->World->Prop} (h:PagerAt w X pb db F M) (hb:RdB (X++F) w s body) (hl:body.length<=100000) (hf:M.free.length<=1000000)
  (hk:∀ F' w',PagerAt w' X pb db F' (makeV M kind body).2->Fr F w w'->(∀ b∈F',b∈F\/w.heap.size<=b)->K (makeV M kind body).1 w') :
  call Tryz.prog 10 [.pointer (some ⟨pb,0,none⟩),.int .u8 kind,.slice s.a s.len s.cap] [.one (.int .u32),.one (.int .i64)] w K:=by
 have h0:=h
 obtain ⟨fb,defb,mb,sl,sn,F1,F2,fs,rfl,hx⟩:=h
 have hlen:=hb.1
 refine qiY (p:=some ⟨pb,0,none⟩) (body:=s) ?_
 unfold qfc
 have same:∀ {e:Int},makeV M kind body=((0,e),M)->K (0,e) w:=by
  intro e he
  have:=hk _ w (by rw [he]; exact h0) (.refl _ _) (fun b hb=>.inl hb)
  rw [he] at this
  exact this
 refine qab (qae (c:=.bool) hx.cell M.over (qc4 hx.suplen) ?_)
 refine qaa (fun hc=>same (by rw [makeV,if_pos hc])) (fun hc=>?_)
 have ho:¬ M.over=true:=by rw [hc]; decide
 refine qaa (fun hc=>?_) (fun hc=>?_)
 ·have:=of_decide_eq_true hc
  exact same (by rw [makeV,if_neg ho,if_pos (by omega)])
 have hb5:¬ body.length>500:=by have:=of_decide_eq_false hc; omega
 refine qab (qae (c:=.ptr) hx.cell (some ⟨fb,0,none⟩) (qd5 hx.suplen) ?_)
 refine qvw hx.free hf fun F1' w1 hp1 f1 n1=>?_
 have hx1:=hx.setFree f1 hp1 n1
 have fF:Fr (pb::mb::(F1++F2)) w w1:=f1.mono fun b hb _=>by simp [hb]
 have nF:=qoT (w:=w) (pb:=pb) (mb:=mb) (F2:=F2) n1
 cases hfr:M.free with
 | nil=>
  have hmv:makeV M kind body=((0,6),M):=by rw [makeV,if_neg ho,if_neg hb5,hfr]
  rw [hfr] at hp1 hx1
  refine cond_true rfl ?_
  have hM:{ M with free:=(takeV []).2 }=M:=by
   show { M with free:=[] }=M
   rw [<- hfr]
  rw [hM] at hx1
  have:=hk _ w1 (by rw [hmv]; exact ⟨fb,defb,mb,sl,sn,F1',F2,fs,rfl,hx1⟩) fF nF
  rw [hmv] at this
  exact this
 | cons n r=>
  have hmv:makeV M kind body=((n,0),{ M with free:=r,fresh:=setL n (kind,body) M.fresh }):=by rw [makeV,if_neg ho,if_neg hb5,hfr]
  rw [hfr] at hp1 hx1
  refine cond_false rfl ?_
  refine qab ?_
  simp only [Addr.add_mk]
  have c1:w1.heap[pb]?=_:=hx1.cell
  refine qae (w:=w1.drew) (c:=.map) c1 (some mb) (qbJ hx.suplen) ?_
  have hb1:RdB (X++pb::mb::(F1'++F2)) w1.drew s body:=hb.frame (fF.drew.mono fun b hb _=>List.mem_append_right _ hb) (qka nF)
  refine qbm hb1 (by omega) fun s2 B2 w2 b2 f2 n2 _ _=>?_
  have f12:Fr [] w1 w2:=((Fr.refl [] w1).drew).trans f2
  have hx2:=hx1.frame0 f12
  refine qan (by rw [qaj hx2.cell]; exact qbJ hx.suplen) ?_
  obtain ⟨o,hr,hm⟩:=qhL (v:=leafV (kind,s2,body)) qnA hx2.map n
  refine qkj _ hr ?_
  have hm':MapS u32V (upd w2 mb o) mb ((setL n (kind,s2,body) fs).map fun e=>(e.1,leafV e.2)):=by rw [qii leafV]; exact hm
  have hx3:=hx2.setMap hm' fun e he=>by
   rcases qiq he with h1 | h1
   ·exact .inl h1
   ·subst h1
    refine .inr (b2.rds qat fun b hb hb2=>?_)
    have l2:w1.heap.size<=b:=n2 b hb
    rcases List.mem_append.1 hb2 with hb2 | hb2
    ·have:=hx1.xlt b hb2; omega
    ·have:=hx1.lt b hb2; omega
  have hM:(setL n (kind,s2,body) fs).map (fun e=>(e.1,e.2.1,e.2.2.2))=setL n (kind,body) M.fresh:=by
   rw [hx.fresh]; exact qii (fun x:Leaf=>(x.1,x.2.2)) n (kind,s2,body) fs
  rw [hM] at hx3
  have f3:Fr (pb::mb::(F1++F2)) w (upd w2 mb o):=(fF.trans' f12 (by simp)).trans' (qf3 hx2.lt_mb o) fun b hb=>by simp only [List.mem_singleton] at hb; subst hb; exact .inl (by simp)
  have:=hk _ (upd w2 mb o) (by rw [hmv]; exact ⟨fb,defb,mb,sl,sn,F1',F2,_,rfl,hx3⟩) f3 nF
  rw [hmv] at this
  exact this
end
end
section
theorem PgX.fresh_look {w:World} {X:List Nat} {pb:Nat} {db:Option Addr} {M:PgM} {fb defb mb:Nat} {sl sn:Sl} {F1 F2:List Nat} {fs:List (Int×Leaf)} (h:PgX w X pb db M fb defb mb sl sn F1 F2 fs) (n:Int):look n M.fresh=(look n fs).map fun q=>(q.1,q.2.1,q.2.2.2):=by
 rw [h.fresh,qci (fun x:Leaf=>(x.1,x.2.2))]
section
variable {w:World} {X:List Nat} {pb:Nat} {db:Option Addr} {F:List Nat} {M:PgM}
def putV (M:PgM) (n kind:Int) (body:List Int):Int×PgM:=
 if M.over then (7,M) else match look n M.fresh with
 | none=>(10,M)
 | some _=>if body.length>500 then (3,M) else (0,{ M with fresh:=setL n (kind,body) M.fresh })
theorem qvn {n kind:Int} {s:Sl} {body:List Int} {K:Int->World->Prop} (h:PagerAt w X pb db F M) (hb:RdB (X++F) w s body) (hl:body.length<=100000)
  (hk:∀ w',PagerAt w' X pb db F (putV M n kind body).2->Fr F w w'->K (putV M n kind body).1 w') :
  call Tryz.prog 49 [.pointer (some ⟨pb,0,none⟩),.int .u32 n,.int .u8 kind,.slice s.a s.len s.cap] [.one (.int .i64)] w K:=by
 have h0:=h
 obtain ⟨fb,defb,mb,sl,sn,F1,F2,fs,rfl,hx⟩:=h
 have hlen:=hb.1
 refine qjO (p:=some ⟨pb,0,none⟩) (body:=s) ?_
 unfold qfL
 have same:∀ {e:Int} {w':World},putV M n kind body=(e,M)->Fr [] w w'->K e w':=by
  intro e w' he hf
  have:=hk w' (by rw [he]; exact h0.frame0 hf) (hf.mono (fun b hb=>by cases hb))
  rw [he] at this
  exact this
 have hfl:=hx.fresh_look n
 refine qab (qae (c:=.bool) hx.cell M.over (qc4 hx.suplen) ?_)
 refine qaa (fun hc=>same (by rw [putV,if_pos hc]) (.refl _ _)) (fun hc=>?_)
 have ho:¬ M.over=true:=by rw [hc]; decide
 refine qab ?_
 simp only [Addr.add_mk]
 refine qae (c:=.map) hx.cell (some mb) (qbJ hx.suplen) ?_
 refine qkn hx.map.at (fun q hq=>?_) (fun hq=>?_)
 ·rw [hq] at hfl
  refine Own.new' (Own.start [] w) fun r w1 e1 f1 ho1=>?_
  refine Own.st ho1 0 rfl _ rfl rfl rfl fun w2 ho1 _=>?_
  refine cond_false rfl ?_
  refine qaa (fun hc=>?_) (fun hc=>?_)
  ·have:=of_decide_eq_true hc
   exact same (by rw [putV,if_neg ho,hfl]; dsimp only [Option.map_some]; rw [if_pos (by omega)]) ho1.fr
  have hb5:¬ body.length>500:=by have:=of_decide_eq_false hc; omega
  have hmv:putV M n kind body=(0,{ M with fresh:=setL n (kind,body) M.fresh }):=by rw [putV,if_neg ho,hfl]; dsimp only [Option.map_some]; rw [if_neg hb5]
  have hx2:=hx.frame0 ho1.drew.fr
  refine qab ?_
  refine qae (w:=w2.drew) (c:=.map) hx2.cell (some mb) (qbJ hx.suplen) ?_
  refine qbm (hb.frame0 ho1.drew.fr) (by omega) fun s2 B2 w3 b2 f2 n2 _ _=>?_
  have f03:Fr [] w w3:=ho1.drew.fr.trans f2
  have hx3:=hx.frame0 f03
  refine qan (by simp only [Addr.add_mk]; rw [qaj hx3.cell]; exact qbJ hx.suplen) ?_
  obtain ⟨o,hr,hm⟩:=qhL (v:=leafV (kind,s2,body)) qnA hx3.map n
  refine qkj _ hr ?_
  have hm':MapS u32V (upd w3 mb o) mb ((setL n (kind,s2,body) fs).map fun e=>(e.1,leafV e.2)):=by rw [qii leafV]; exact hm
  have hx4:=hx3.setMap hm' fun e he=>by
   rcases qiq he with h1 | h1
   ·exact .inl h1
   ·subst h1
    refine .inr (b2.rds qat fun b hb hb2=>?_)
    have l2:w2.drew.heap.size<=b:=n2 b hb
    rcases List.mem_append.1 hb2 with hb2 | hb2
    ·have:b<w2.heap.size:=hx2.xlt b hb2
     have:w2.drew.heap.size=w2.heap.size:=rfl
     omega
    ·have:b<w2.heap.size:=hx2.lt b hb2
     have:w2.drew.heap.size=w2.heap.size:=rfl
     omega
  have hM:(setL n (kind,s2,body) fs).map (fun e=>(e.1,e.2.1,e.2.2.2))=setL n (kind,body) M.fresh:=by
   rw [hx.fresh]; exact qii (fun x:Leaf=>(x.1,x.2.2)) n (kind,s2,body) fs
  rw [hM] at hx4
  have f4:Fr (pb::mb::(F1++F2)) w (upd w3 mb o):=(f03.mono (T:=pb::mb::(F1++F2)) (fun b hb=>by cases hb)).trans' (qf3 hx3.lt_mb o) fun b hb=>by simp only [List.mem_singleton] at hb; subst hb; exact .inl (by simp)
  have:=hk (upd w3 mb o) (by rw [hmv]; exact ⟨fb,defb,mb,sl,sn,F1,F2,_,rfl,hx4⟩) f4
  rw [hmv] at this
  exact this
 ·rw [hq] at hfl
  refine Own.new' (Own.start [] w) fun r w1 e1 f1 ho1=>?_
  refine Own.st ho1 0 rfl _ rfl rfl rfl fun w2 ho1 _=>?_
  refine cond_true rfl ?_
  exact same (by rw [putV,if_neg ho,hfl]; rfl) ho1.fr
def dropV (M:PgM) (n:Int):Int×PgM:=
 if M.over then (7,M) else match look n M.fresh with
 | some _=>(0,{ M with fresh:=delL n M.fresh,free:=ins n M.free })
 | none=>if usedV M n then (0,{ M with deferred:=ins n M.deferred }) else (10,M)
theorem quQ {n:Int} {K:Int->World->Prop} (h:PagerAt w X pb db F M) (hl:M.lists.length<=1000000) (hf:M.free.length<=1000000) (hd:M.deferred.length<=1000000)
  (hk:∀ F' w',PagerAt w' X pb db F' (dropV M n).2->Fr F w w'->(∀ b∈F',b∈F\/w.heap.size<=b)->K (dropV M n).1 w') :
  call Tryz.prog 13 [.pointer (some ⟨pb,0,none⟩),.int .u32 n] [.one (.int .i64)] w K:=by
 have h0:=h
 obtain ⟨fb,defb,mb,sl,sn,F1,F2,fs,rfl,hx⟩:=h
 refine qji (p:=some ⟨pb,0,none⟩) ?_
 unfold qfa
 have same:∀ {e:Int} {w':World},dropV M n=(e,M)->Fr [] w w'->K e w':=by
  intro e w' he hf
  have:=hk _ w' (by rw [he]; exact h0.frame0 hf) (hf.mono (fun b hb=>by cases hb)) (fun b hb=>.inl hb)
  rw [he] at this
  exact this
 have hfl:=hx.fresh_look n
 refine qab (qae (c:=.bool) hx.cell M.over (qc4 hx.suplen) ?_)
 refine qaa (fun hc=>same (by rw [dropV,if_pos hc]) (.refl _ _)) (fun hc=>?_)
 have ho:¬ M.over=true:=by rw [hc]; decide
 refine qab ?_
 simp only [Addr.add_mk]
 refine qae (c:=.map) hx.cell (some mb) (qbJ hx.suplen) ?_
 refine qkn hx.map.at (fun q hq=>?_) (fun hq=>?_)
 ·rw [hq] at hfl
  refine Own.new' (Own.start [] w) fun r w1 e1 f1 ho1=>?_
  refine Own.st ho1 0 rfl _ rfl rfl rfl fun w2 ho1 _=>?_
  refine cond_true rfl ?_
  have hmv:dropV M n=(0,{ M with fresh:=delL n M.fresh,free:=ins n M.free }):=by rw [dropV,if_neg ho,hfl]; rfl
  have hx2:=hx.frame0 ho1.fr
  refine qab ?_
  refine qae (c:=.map) hx2.cell (some mb) (qbJ hx.suplen) ?_
  obtain ⟨o,hr,hm⟩:=MapS.del (ty:=0) qnA qcA hx2.map n
  refine qpJ (ts:=[]) () _ hr ?_
  have hm':MapS u32V (upd w2 mb o) mb ((delL n fs).map fun e=>(e.1,leafV e.2)):=by
   rw [qpE leafV]
   rw [qbT] at hm
   unfold delL
   cases hl:look n (fs.map fun e=>(e.1,leafV e.2)) with
   | none=>rw [hl] at hm; exact hm
   | some q=>rw [hl] at hm; exact hm
  have hx3:=hx2.setMap hm' fun e he=>.inl (qqh he)
  have hM:(delL n fs).map (fun e=>(e.1,e.2.1,e.2.2.2))=delL n M.fresh:=by
   rw [hx.fresh]; exact qpE (fun x:Leaf=>(x.1,x.2.2)) n fs
  rw [hM] at hx3
  have f3:Fr (pb::mb::(F1++F2)) w (upd w2 mb o):=(ho1.fr.mono (T:=pb::mb::(F1++F2)) (fun b hb=>by cases hb)).trans' (qf3 hx2.lt_mb o) fun b hb=>by simp only [List.mem_singleton] at hb; subst hb; exact .inl (by simp)
  refine qab (qae (c:=.ptr) hx3.cell (some ⟨fb,0,none⟩) (qd5 hx.suplen) ?_)
  refine qme hx3.free hf fun F1' w4 hp4 f4 n4=>?_
  have hx4:=hx3.setFree f4 hp4 n4
  have hs:w.heap.size<=(upd w2 mb o).heap.size:=by rw [qbR]; exact ho1.fr.size
  have:=hk _ w4 (by rw [hmv]; exact ⟨fb,defb,mb,sl,sn,F1',F2,_,rfl,hx4⟩) (f3.trans' f4 fun b hb=>.inl (by simp [hb])) fun b hb=>by
   rcases qoT n4 b hb with h1 | h1
   ·exact .inl h1
   ·exact .inr (Nat.le_trans hs h1)
  rw [hmv] at this
  exact this
 ·rw [hq] at hfl
  refine Own.new' (Own.start [] w) fun r w1 e1 f1 ho1=>?_
  refine Own.st ho1 0 rfl _ rfl rfl rfl fun w2 ho1 _=>?_
  refine cond_false rfl ?_
  refine qoY (h0.frame0 ho1.fr) hl fun w3 f3=>?_
  have f03:=ho1.fr.trans f3
  refine qaa (fun hc=>?_) (fun hc=>?_)
  ·have hu:usedV M n=false:=by simpa using hc
   exact same (by rw [dropV,if_neg ho,hfl]; show (if usedV M n then _ else _)=_; rw [hu]; rfl) f03
  have hu:usedV M n=true:=by simpa using hc
  have hmv:dropV M n=(0,{ M with deferred:=ins n M.deferred }):=by
   rw [dropV,if_neg ho,hfl]; show (if usedV M n then _ else _)=_; rw [hu]; rfl
  have hx3:=hx.frame0 f03
  refine qab (qae (c:=.ptr) hx3.cell (some ⟨defb,0,none⟩) (qjt hx.suplen) ?_)
  refine qme hx3.deferred hd fun F2' w4 hp4 f4 n4=>?_
  have hx4:=hx3.setDef f4 hp4 n4
  have:=hk _ w4 (by rw [hmv]; exact ⟨fb,defb,mb,sl,sn,F1,F2',_,rfl,hx4⟩) ((f03.mono (T:=pb::mb::(F1++F2)) (fun b hb=>by cases hb)).trans' f4 fun b hb=>.inl (by simp [hb])) fun b hb=>by
   rcases qrU n4 b hb with h1 | h1
   ·exact .inl h1
   ·exact .inr (Nat.le_trans f03.size h1)
  rw [hmv] at this
  exact this
end
end
def keyI (e:MapEntry):Int:=match e.key with | .int _ n=>n | _=>0
theorem quh {es:List MapEntry} {f:List (Int×Value)} (h:Ents u32V es f):es.map keyI=f.map (·.1)/\∀ e∈es,e.key=u32V (keyI e):=by
 induction es generalizing f with
 | nil=>cases f with
  | nil=>exact ⟨rfl,by simp⟩
  | cons p f=>simp [Ents] at h
 | cons e es ih=>cases f with
  | nil=>simp [Ents] at h
  | cons p f=>
   simp only [Ents,List.map_cons,List.cons.injEq,Prod.mk.injEq] at h
   obtain ⟨⟨h1,h2⟩,h3⟩:=h
   obtain ⟨i1,i2⟩:=ih h3
   have hk:keyI e=p.1:=by unfold keyI; rw [h1]
   refine ⟨by rw [List.map_cons,List.map_cons,hk,i1],fun e' he=>?_⟩
   rcases List.mem_cons.1 he with rfl | he
   ·rw [hk]; exact h1
   ·exact i2 e' he
theorem qnV {β:Type} {g:β->Nat}:∀ {l:List β} {e:β},(l.map g).Pairwise (· < ·)->e∈l->l.Perm (e::l.filter fun x=>!(g x==g e))
 | x::l,e,hs,he=>by
  rw [List.map_cons,List.pairwise_cons] at hs
  rcases List.mem_cons.1 he with rfl | he
  ·have:(e::l).filter (fun x=>!(g x==g e))=l:=by
    rw [List.filter_cons_of_neg (by simp)]
    exact List.filter_eq_self.2 fun y hy=>by
     have:=hs.1 (g y) (List.mem_map_of_mem hy)
     have hne:g y≠g e:=by omega
     simp [hne]
   rw [this]
  ·have hlt:=hs.1 (g e) (List.mem_map_of_mem he)
   have hne:g x≠g e:=by omega
   rw [List.filter_cons_of_pos (by simp [hne])]
   exact ((qnV hs.2 he).cons x).trans (List.Perm.swap e x _)
def left (es:Array MapEntry) (seen:Array Nat):List MapEntry:=es.toList.filter fun e=>!seen.toList.contains e.born
theorem qtr {es:Array MapEntry} {seen:Array Nat} {e:MapEntry} (hs:(es.toList.map (·.born)).Pairwise (· < ·)) (he:e∈es.toList) (hn:e.born∉seen.toList):(left es seen).Perm (e::left es (seen.push e.born)):=by
 have h1:left es (seen.push e.born)=(left es seen).filter fun x=>!(x.born==e.born):=by
  rw [left,left,List.filter_filter]
  congr 1
  funext x
  rw [Array.toList_push]
  by_cases h:x.born=e.born <;> simp [h]
 rw [h1]
 refine qnV (g:=fun x:MapEntry=>x.born) ?_ (List.mem_filter.2 ⟨he,by simpa using hn⟩)
 exact hs.sublist (List.filter_sublist.map _)
def seenAt (w:World) (it:Nat):Nat:=match w.heap[it]? with | some (.mapIter _ _ seen _)=>seen.size | _=>0
theorem qoq {w:World} {it:Nat} {a:Option Nat} {b c:Nat} {seen:Array Nat} (h:w.heap[it]?=some (.mapIter a b seen c)):seenAt w it=seen.size:=by unfold seenAt; rw [h]
theorem qoC {w:World} {mb rk:Nat} {f:List (Int×Value)} {T:TypeId} {K:Sl->World->Prop} (hm:MapS u32V w mb f) (hrk:w.heap[rk]?=some (.cells #[.map (some mb)] T (0,0))) (hf:f.length<=100000)
  (hk:∀ s' B l' w',BufU w' s' l' B->l'.Perm (f.map (·.1))->Fr [] w w'->(∀ b∈B,w.heap.size<=b)->K s' w') :
  call Tryz.prog 139 [.slice none 0 0,.func (.func 117) #[] #[.pointer (some ⟨rk,0,none⟩)]] [.one .slice] w K:=by
 refine qiS (s:=⟨none,0,0⟩) ?_
 unfold qe9
 obtain ⟨es,c,hb,he,hs,hc⟩:=hm
 obtain ⟨hkm,hkey⟩:=quh he
 have hesl:es.toList.length=f.length:=by have:=congrArg List.length hkm; simpa using this
 have hbW:∀ {w':World},Fr [] w w'->w'.heap[mb]?=some (.map es c):=fun f=>by rw [f.block mb (qac hb) (by simp)]; exact hb
 have hrW:∀ {w':World},Fr [] w w'->w'.heap[rk]?=some (.cells #[.map (some mb)] T (0,0)):=fun f=>by rw [f.block rk (qac hrk) (by simp)]; exact hrk
 refine Own.new' (Own.start [] w) fun r1 w1 e1 f1 ho=>?_
 refine Own.rng (lb:=[.pointer (some ⟨rk,0,none⟩)]) ho rfl (by kernel_rfl) fun Dm l R Bz J E E0 w6 el eD f56 ho6 hy=>?_
 refine qma ?_
 unfold qiA
 refine qae (c:=.map) (hrW ho6.fr) (some mb) rfl ?_
 refine qpJ (ts:=[.one .any]) _ _ (qs6 qnA (hbW ho6.fr)) ?_
 have ho7:=ho6.alloc (.mapIter (some mb) c #[] c)
 generalize hit:w6.heap.size=it at ho7
 refine qag (fun _ w'=>∃ (seen:Array Nat) (so:Sl) (xs:List Int) (Bo:List Nat),
   Own [] w w' [(it,.mapIter (some mb) c seen c),(l,R),(Dm,.deferred (some [])),(r1,.cells #[.slice so.a so.len so.cap] 27 (0,0))]/\(xs++(left es seen).map keyI).Perm (f.map (·.1))/\xs.length=seen.size/\BufU w' so xs Bo/\
   ∀ b∈Bo,w.heap.size<=b/\b∉[it,l,Dm,r1]) (fun _ w'=>f.length-seenAt w' it)
  ⟨#[],⟨none,0,0⟩,[],[],ho7,?_,rfl,.nil _ _ _,by simp⟩ ?_
 ·have:left es #[]=es.toList:=by unfold left; exact List.filter_eq_self.2 (by simp)
  rw [this,hkm]
  exact .refl _
 rintro _ w8 ⟨seen,so,xs,Bo,ho8,hperm,hxl,hbu,hBo⟩ X hX
 have hxs:xs.length+(left es seen).length=f.length:=by have:=hperm.length_eq; simpa using this
 refine qvY (hbW ho8.fr) (ho8.at (i:=0) rfl) hc (fun hall=>?_) (fun e hem hne w9 hsame=>?_)
 ·have hl0:left es seen=[]:=List.filter_eq_nil_iff.2 fun e he=>by simpa using hall e he
  rw [hl0,List.map_nil,List.append_nil] at hperm
  refine .inl ⟨ho8.at (i:=1) rfl,?_⟩
  have ho9:=ho8.upd (o':=E0) 1 rfl
  have hbu9:=hbu.frame (qbG (qac (ho8.at (i:=1) rfl)) E0) (fun b hb hm=>by simp only [List.mem_singleton] at hm; subst hm; exact (hBo _ hb).2 (by simp))
  refine Own.ld (c:=.slice) ho9 3 rfl so rfl ?_
  refine Own.undefer ho9.rebase 2 rfl fun w10 hd=>?_
  exact hk so Bo xs w10 (hbu9.frame hd.fr (fun b hb=>(hBo b hb).2)) hperm (ho9.back (L':=[]) hd.fr) (fun b hb=>(hBo b hb).1)
 ·have ho9:=(ho8.frame0 (.of_same hsame)).upd (o':=.mapIter (some mb) c (seen.push e.born) c) 0 rfl
  have hbu9:BufU (Pt.upd w9 it (.mapIter (some mb) c (seen.push e.born) c)) so xs Bo:=(hbu.frame0 (.of_same hsame)).frame (qbG (qac ((ho8.frame0 (.of_same hsame)).at (i:=0) rfl)) _) (fun b hb hm=>by simp only [List.mem_singleton] at hm; subst hm; exact (hBo _ hb).2 (by simp))
  generalize hw10:Pt.upd w9 it (.mapIter (some mb) c (seen.push e.born) c)=w10 at ho9 hbu9
  refine qvP (hbW ho9.fr) (ho9.at (i:=0) rfl) hem hs ?_
  rw [hkey e hem]
  refine hy (keyI e) w10 _ (ho9.at (i:=1) rfl) ?_
  dsimp only
  refine ⟨ho9.at (i:=1) rfl,?_⟩
  have hoA:=ho9.upd (o':=Bz) 1 rfl
  have hbuA:=hbu9.frame (qbG (qac (ho9.at (i:=1) rfl)) Bz) (fun b hb hm=>by simp only [List.mem_singleton] at hm; subst hm; exact (hBo _ hb).2 (by simp))
  refine Own.ld (c:=.slice) hoA 3 rfl so rfl ?_
  refine qig hbuA (by omega) fun s11 B11 w11 b11 f11 n11=>?_
  have hLlt:∀ p∈[it,l,Dm,r1],p<(Pt.upd w10 l Bz).heap.size:=fun p hp=>by
   have hlt:=fun (k:Nat) (q:Nat×Obj) (hq:_[k]?=some q)=>qac (hoA.at (i:=k) hq)
   simp only [List.mem_cons,List.not_mem_nil,or_false] at hp
   rcases hp with rfl | rfl | rfl | rfl
   ·exact hlt 0 _ rfl
   ·exact hlt 1 _ rfl
   ·exact hlt 2 _ rfl
   ·exact hlt 3 _ rfl
  have hB11:∀ b∈B11,w.heap.size<=b/\b∉[it,l,Dm,r1]:=fun b hb=>by
   rcases n11 b hb with h | h
   ·exact hBo b h
   ·refine ⟨Nat.le_trans hoA.fr.size h,fun hm=>?_⟩
    exact Nat.lt_irrefl _ (Nat.lt_of_lt_of_le (hLlt b hm) h)
  have hoB:=hoA.frame f11 (fun b hb=>.inr (hBo b hb).1) (fun p hp hb=>(hBo _ hb).2 (List.mem_map_of_mem (f:=(·.1)) hp))
  refine Own.st' hoB 3 rfl _ rfl rfl (Nat.le_of_ble_eq_true rfl) fun w12 hoC f12=>?_
  refine ⟨hoC.at (i:=1) rfl,?_⟩
  have hoD:=hoC.upd (o':=R) 1 rfl
  have b12:=(b11.frame f12 (fun b hb hm=>by simp only [List.mem_singleton] at hm; subst hm; exact (hB11 _ hb).2 (by simp))).frame (qbG (qac (hoC.at (i:=1) rfl)) R) (fun b hb hm=>by simp only [List.mem_singleton] at hm; subst hm; exact (hB11 _ hb).2 (by simp))
  refine cond_false rfl ?_
  have hpk:=qtr hs hem hne
  refine hX _ _ ⟨seen.push e.born,s11,xs++[keyI e],B11,hoD,?_,by simp [hxl],b12,hB11⟩ ?_
  ·refine List.Perm.trans ?_ hperm
   rw [List.append_assoc]
   exact (hpk.symm.map keyI).append_left xs
  ·have h1:=qoq (ho8.at (i:=0) rfl)
   have h2:seenAt (Pt.upd w12 l R) it=(seen.push e.born).size:=qoq (hoD.at (i:=0) rfl)
   have h3:=hpk.length_eq
   rw [List.length_cons] at h3
   show f.length-seenAt (Pt.upd w12 l R) it<f.length-seenAt w8 it
   rw [h1,h2,Array.size_push]
   omega
end Go.Proofs.YtmbcedengdoamaaGreatDoor
end
section
set_option linter.unusedVariables false
set_option linter.unusedSimpArgs false
namespace Go.Proofs.YtmbcedengdoamaaGreatDoor
open Go Go.Pt Go.Sort
attribute [local irreducible] ld ldA ldV fld fldA newZ st new idx idxS idxA slc slcS slcP mkS chk nn call callV inv run runQ runU join loop held ext rng undefer s2a nxt ent IntKind.wrap
theorem qfW (l:List Int):l.flatMap encU=l.map (Value.int .u32):=by
 induction l with
 | nil=>rfl
 | cons a l ih=>rw [List.flatMap_cons,ih]; rfl
theorem qpk {w:World} {s:Sl} {l:List Int} {B:List Nat} {K:Unit->World->Prop} (h:BufU w s l B) (hl:l.length<=1000000)
  (hk:∀ l' w',BufU w' s l' B->l'.Perm l->l'.Pairwise (·<=·)->Fr B w w'->K () w') :
  call Tryz.prog 91 [.slice s.a s.len s.cap] [] w K:=by
 rcases h with ⟨rfl,rfl,rfl⟩ | ⟨b,o,cs,T,rfl,rfl,ha,hb,h1,h2,h3,h4⟩
 ·exact qqk (hk [] w (.nil _ _ _) (.refl _) .nil (.refl _ _))
 ·obtain ⟨a,len,cap⟩:=s
  simp only at ha h1 h2 h3 h4
  subst ha h1
  rw [List.drop_zero,Nat.mul_one,qfW] at h4
  rw [Nat.zero_add,Nat.mul_one] at h3
  have hcs:cs=u32s l.toArray++(cs.toList.drop l.length).toArray:=by
   apply Array.ext'
   rw [Array.toList_append,u32s,Array.toList_map,<- h4,List.take_append_drop]
  have harr:Arr b ⟨T,some (cs.toList.drop l.length).toArray⟩ w w l.toArray:=⟨.refl _ _,by rw [hb]; show _=some (Obj.cells (u32s l.toArray++(cs.toList.drop l.length).toArray) T (0,0)); rw [<- hcs]⟩
  refine qrg (len:=l.length) harr ⟨by simp,by omega⟩ fun d' w' s1 s2 s3=>?_
  have hsz:d'.size=l.length:=by have:=s1.1; simpa using this
  have hp:d'.toList.Perm l:=by
   have:=qcI s1
   rw [List.take_of_length_le (by rw [Array.length_toList]; omega)] at this
   simpa using this
  have hdl:d'.toList.length=l.length:=by rw [<- hsz]; rfl
  have hcl:cs.toList.length=cs.size:=rfl
  refine hk d'.toList w' (.inr ⟨b,0,_,T,rfl,rfl,rfl,s3.blk,?_,?_,?_,?_⟩) hp ?_ s3.fr
  ·show l.length=d'.toList.length
   exact hdl.symm
  ·exact h2
  ·show 0+cap*1<=(u32s d'++(cs.toList.drop l.length).toArray).size
   have e:(cs.toList.drop l.length).toArray.size=cs.size-l.length:=by simp
   rw [Array.size_append,qc9,e,hsz]
   omega
  ·show ((u32s d'++(cs.toList.drop l.length).toArray).toList.drop 0).take _=_
   rw [List.drop_zero,Nat.mul_one,Array.toList_append,u32s,Array.toList_map,List.take_append_of_le_length (by rw [List.length_map]; exact Nat.le_refl _),List.take_of_length_le (by rw [List.length_map]; exact Nat.le_refl _),qfW]
  ·rw [List.pairwise_iff_getElem]
   intro i j hi hj hij
   have hi:i<d'.size:=hi
   have hj:j<d'.size:=hj
   have:=s2 i j (Nat.zero_le _) hij (by omega)
   rw [getElem!_pos d' i hi,getElem!_pos d' j hj] at this
   simp [ltInt] at this
   simpa using this
theorem qp2 {w:World} {mb:Nat} {f:List (Int×Value)} {K:Sl->World->Prop} (hm:MapS u32V w mb f) (hf:f.length<=100000)
  (hk:∀ s' B l' w',BufU w' s' l' B->l'.Perm (f.map (·.1))->l'.Pairwise (·<=·)->Fr [] w w'->(∀ b∈B,w.heap.size<=b)->K s' w') :
  call Tryz.prog 84 [.map (some mb)] [.one .any] w fun v w'=>
   call Tryz.prog 83 [v] [.one .slice] w' fun s w'=>K s w':=by
 refine qpr (m:=some mb) ?_
 unfold qmQ
 refine Own.new' (Own.start [] w) fun rk w1 e1 f1 ho=>?_
 refine qlv ?_
 unfold qhD
 refine qkt ?_
 unfold qgm
 refine qoC (hm.frame f1 (by simp)) (ho.at (i:=0) rfl) hf fun s' B l' w2 b2 p2 f2 n2=>?_
 have hl:l'.length=f.length:=by have:=p2.length_eq; simpa using this
 refine qpk b2 (by omega) fun l2 w3 b3 p3 s3 f3=>?_
 have hs:=f1.size
 exact hk s' B l2 w3 b3 (p3.trans p2) s3 ((f1.trans f2).trans' f3 fun b hb=>.inr (Nat.le_trans hs (n2 b hb))) fun b hb=>Nat.le_trans hs (n2 b hb)
section
variable {w:World} {X:List Nat} {pb:Nat} {db:Option Addr} {F:List Nat} {M:PgM}
theorem qnZ {K:Sl->World->Prop} (h:PagerAt w X pb db F M) (hl:M.fresh.length<=100000) (hk:∀ s B l w',BufU w' s l B->l.Perm (M.fresh.map (·.1))->l.Pairwise (·<=·)->Fr [] w w'->(∀ b∈B,w.heap.size<=b)->K s w') :
  call Tryz.prog 34 [.pointer (some ⟨pb,0,none⟩)] [.one .slice] w K:=by
 obtain ⟨fb,defb,mb,sl,sn,F1,F2,fs,rfl,hx⟩:=h
 refine qil (p:=some ⟨pb,0,none⟩) ?_
 unfold qew
 refine qab ?_
 simp only [Addr.add_mk]
 refine qae (c:=.map) hx.cell (some mb) (qbJ hx.suplen) ?_
 have hlf:fs.length<=100000:=by rw [hx.fresh] at hl; simpa using hl
 refine qp2 hx.map (by simpa using hlf) fun s B l w' b p o f n=>?_
 refine hk s B l w' b ?_ o f n
 rw [hx.fresh]
 simpa [Function.comp_def] using p
end
end Go.Proofs.YtmbcedengdoamaaGreatDoor
end
section
set_option linter.unusedVariables false
set_option linter.unusedSimpArgs false
namespace Go.Proofs.YtmbcedengdoamaaGreatDoor
open Go Go.Pt
attribute [local irreducible] ld ldA ldV fld fldA newZ st new idx idxS idxA slc slcS slcP mkS chk nn call callV inv run runQ runU join loop held ext rng undefer s2a nxt ent IntKind.wrap
theorem qaq {A X Y Z:List Value} (h:X.length=Y.length):splice (A++X++Z).toArray A.length Y=(A++Y++Z).toArray:=by
 apply Array.ext'
 rw [qaw _ _ _ (by rw [List.size_toArray]; simp only [List.length_append]; omega)]
 exact qf7 A X Y Z h
theorem qao {offs:Array (Nat×Nat)} {cells:Array Value} {i o s:Nat} {v:Value} {rest:List (Nat×Value)} (h:offs[i]?=some (o,s)) (hv:v.cells.size=s) (hb:o+s<=cells.size) :
  Instr.fill (offs[·]?) cells ((i,v)::rest)=Instr.fill (offs[·]?) (splice cells o v.cells.toList) rest:=by
 have h1:=qh0 o v.cells cells
 simp only [Instr.fill,h]
 rw [if_neg (by simp [hv]; omega),h1]
theorem qa4 {P:Program} {t:TypeId} {z:Value} {parts:List (Nat×Value)} {offs:Array (Nat×Nat)} {cs:Array Value} (hz:(P.info? t).bind (·.zero)=some z) (hu:P.underlying t=some (.struct (fieldsOf P t))) (hpl:∀ w,((fieldsOf P t).mapM fun f=>do pure (f.offset,<- sizeOf f.type):Sem (Array (Nat×Nat))).run P w=.ok offs w)
  (hf:Instr.fill (offs[·]?) z.cells parts=some cs) (w:World):(Instr.build t parts.toArray).run P w=.ok (.agg cs) w:=by
 simp only [Instr.build,Sem.run_bind,qaZ hz,Result.andThen_ok,run_underlying hu,hpl,hf,Sem.run_pure]
abbrev WKT:TypeId:=98
def workV (x y:Option Addr) (m:Option Nat) (roots:List Int):List Value:=[.pointer x,.pointer y,.map m]++roots.map (Value.int .u32)
theorem qaB {x y:Option Addr} {m:Option Nat} {roots:List Int} (h:roots.length=24):(workV x y m roots).length=27:=by simp [workV,h]
theorem qwo:(Tryz.prog.info? WKT).bind (·.zero)=some (.agg (workV none none none (zs 24)).toArray):=by kernel_rfl
theorem qsf {x y:Option Addr} {m:Option Nat} {roots:List Int} (h:roots.length=24) (w:World) :
  (Instr.build WKT #[(0,.pointer x),(1,.pointer y),(2,.map m),(3,.agg (roots.map (Value.int .u32)).toArray)]).run Tryz.prog w=.ok (.agg (workV x y m roots).toArray) w:=by
 refine qa4 (parts:=[(0,.pointer x),(1,.pointer y),(2,.map m),(3,.agg (roots.map (Value.int .u32)).toArray)]) (offs:=#[(0,1),(1,1),(2,1),(3,24)]) qwo (by kernel_rfl) (fun w=>by kernel_rfl) ?_ w
 have hs:(Value.agg (roots.map (Value.int .u32)).toArray).cells.size=24:=by show (roots.map (Value.int .u32)).toArray.size=24; simp [h]
 rw [qao (o:=0) (s:=1) rfl rfl (Nat.le_of_ble_eq_true rfl),qao (o:=1) (s:=1) rfl rfl (Nat.le_of_ble_eq_true rfl),qao (o:=2) (s:=1) rfl rfl (Nat.le_of_ble_eq_true rfl),qao (o:=3) (s:=24) rfl hs (Nat.le_of_ble_eq_true rfl)]
 show some _=_
 congr 1
 exact qaq (A:=[.pointer x,.pointer y,.map m]) (X:=(zs 24).map (Value.int .u32)) (Z:=[]) (Y:=roots.map (Value.int .u32)) (by simp [h,qaC]) |>.trans (by rw [List.append_nil]; rfl)
def pgRaw (db:Option Addr) (sup:Sup) (sl sn:Sl) (turn:Int) (over:Bool) (wk:List Value):Array Value:=
 ((Value.pointer db::supV sup.1 sup.2)++([.slice sl.a sl.len sl.cap,.slice sn.a sn.len sn.cap,.int .i64 turn,.bool over]:List Value)++wk).toArray
theorem qbw {db:Option Addr} {sup:Sup} {sl sn:Sl} {turn:Int} {over:Bool} {fb defb mb:Nat} {roots:List Int} :
  pgRaw db sup sl sn turn over (workV (some ⟨fb,0,none⟩) (some ⟨defb,0,none⟩) (some mb) roots)=pgCells db sup sl sn turn over fb defb mb roots:=by
 simp [pgRaw,pgCells,pgRest,workV]
section
variable {db:Option Addr} {sup:Sup} {sl sn:Sl} {turn:Int} {over:Bool} {wk:List Value}
theorem qby (hl:sup.2.length=27):(pgRaw db sup sl sn turn over wk).size=33+wk.length:=by
 rw [pgRaw,List.size_toArray,List.length_append,List.length_append,qa5 hl]; rfl
theorem qeM (hl:sup.2.length=27) (j:Nat) (h:j<4):(pgRaw db sup sl sn turn over wk)[29+j]?=([.slice sl.a sl.len sl.cap,.slice sn.a sn.len sn.cap,.int .i64 turn,.bool over]:List Value)[j]?:=by
 rw [pgRaw,List.getElem?_toArray,List.append_assoc,List.getElem?_append_right (by rw [qa5 hl]; omega),qa5 hl,Nat.add_sub_cancel_left,List.getElem?_append_left (by exact h)]
theorem qwf:(pgRaw db sup sl sn turn over wk)[0]?=some (.pointer db):=rfl
theorem qkl (hl:sup.2.length=27) (n:Nat) (h:n<27):(pgRaw db sup sl sn turn over wk)[n+2]?=some (.int .u32 (sup.2.getD n 0)):=by
 rw [pgRaw,List.getElem?_toArray,List.append_assoc,List.getElem?_append_left (by rw [qa5 hl]; omega),List.getElem?_cons_succ]
 have:=qb0 (q:=sup.1) (t:=sup.2) n (by omega)
 rw [List.getElem?_toArray] at this
 exact this
theorem qj0 (hl:sup.2.length=27):((pgRaw db sup sl sn turn over wk).toList.drop 5).take 24=(sup.2.drop 3).map (Value.int .u32):=by
 have hm:((sup.2.drop 3).map (Value.int .u32)).length=24:=by rw [List.length_map,List.length_drop,hl]
 have e:(pgRaw db sup sl sn turn over wk).toList.drop 5=(sup.2.drop 3).map (Value.int .u32)++([.slice sl.a sl.len sl.cap,.slice sn.a sn.len sn.cap,.int .i64 turn,.bool over]++wk):=by
  show List.drop 3 ((sup.2.map (Value.int .u32))++[_,_,_,_]++wk)=_
  rw [List.append_assoc,List.drop_append_of_le_length (by rw [List.length_map,hl]; decide),List.map_drop]
 rw [e,List.take_append_of_le_length (Nat.le_of_eq hm.symm),List.take_of_length_le (Nat.le_of_eq hm)]
theorem qup (hl:sup.2.length=27) {turn':Int}:splice (pgRaw db sup sl sn turn over wk) 31 [.int .i64 turn']=pgRaw db sup sl sn turn' over wk:=by
 have h:((Value.pointer db::supV sup.1 sup.2)++([.slice sl.a sl.len sl.cap,.slice sn.a sn.len sn.cap]:List Value)).length=31:=by rw [List.length_append,qa5 hl]; rfl
 have:=qaq (A:=(Value.pointer db::supV sup.1 sup.2)++([.slice sl.a sl.len sl.cap,.slice sn.a sn.len sn.cap]:List Value)) (X:=[.int .i64 turn]) (Y:=[.int .i64 turn']) (Z:=.bool over::wk) rfl
 rw [h] at this
 simpa [pgRaw] using this
theorem qpQ (hl:sup.2.length=27) {wk':List Value} (hw:wk.length=wk'.length):splice (pgRaw db sup sl sn turn over wk) 33 wk'=pgRaw db sup sl sn turn over wk':=by
 have h:((Value.pointer db::supV sup.1 sup.2)++([.slice sl.a sl.len sl.cap,.slice sn.a sn.len sn.cap,.int .i64 turn,.bool over]:List Value)).length=33:=by rw [List.length_append,qa5 hl]; rfl
 have:=qaq (A:=(Value.pointer db::supV sup.1 sup.2)++([.slice sl.a sl.len sl.cap,.slice sn.a sn.len sn.cap,.int .i64 turn,.bool over]:List Value)) (X:=wk) (Y:=wk') (Z:=[]) hw
 rw [h,List.append_nil,List.append_nil] at this
 exact this
end
end Go.Proofs.YtmbcedengdoamaaGreatDoor
end
section
set_option linter.unusedVariables false
set_option maxRecDepth 100000
namespace Go.Proofs.YtmbcedengdoamaaGreatDoor
open Go Go.Pt
def qnJ (blocks:Int) (K:((Option Addr)×Int)->World->Prop) (w:World):Prop:=join (Bool) (fun b=>cond (decide (blocks<8)) (b true w) (b (decide (blocks>4096)) w)) fun (c:Bool) d=>cond c (K ((none,1)) d) (mkS 128 ([.int .u8 0,.int .u8 0,.int .u8 0,.int .u8 0,.int .u8 0,.int .u8 0,.int .u8 0,.int .u8 0,.int .u8 0,.int .u8 0,.int .u8 0,.int .u8 0,.int .u8 0,.int .u8 0,.int .u8 0,.int .u8 0,.int .u8 0,.int .u8 0,.int .u8 0,.int .u8 0,.int .u8 0,.int .u8 0,.int .u8 0,.int .u8 0,.int .u8 0,.int .u8 0,.int .u8 0,.int .u8 0,.int .u8 0,.int .u8 0,.int .u8 0,.int .u8 0,.int .u8 0,.int .u8 0,.int .u8 0,.int .u8 0,.int .u8 0,.int .u8 0,.int .u8 0,.int .u8 0,.int .u8 0,.int .u8 0,.int .u8 0,.int .u8 0,.int .u8 0,.int .u8 0,.int .u8 0,.int .u8 0,.int .u8 0,.int .u8 0,.int .u8 0,.int .u8 0,.int .u8 0,.int .u8 0,.int .u8 0,.int .u8 0,.int .u8 0,.int .u8 0,.int .u8 0,.int .u8 0,.int .u8 0,.int .u8 0,.int .u8 0,.int .u8 0,.int .u8 0,.int .u8 0,.int .u8 0,.int .u8 0,.int .u8 0,.int .u8 0,.int .u8 0,.int .u8 0,.int .u8 0,.int .u8 0,.int .u8 0,.int .u8 0,.int .u8 0,.int .u8 0,.int .u8 0,.int .u8 0,.int .u8 0,.int .u8 0,.int .u8 0,.int .u8 0,.int .u8 0,.int .u8 0,.int .u8 0,.int .u8 0,.int .u8 0,.int .u8 0,.int .u8 0,.int .u8 0,.int .u8 0,.int .u8 0,.int .u8 0,.int .u8 0,.int .u8 0,.int .u8 0,.int .u8 0,.int .u8 0,.int .u8 0,.int .u8 0,.int .u8 0,.int .u8 0,.int .u8 0,.int .u8 0,.int .u8 0,.int .u8 0,.int .u8 0,.int .u8 0,.int .u8 0,.int .u8 0,.int .u8 0,.int .u8 0,.int .u8 0,.int .u8 0,.int .u8 0,.int .u8 0,.int .u8 0,.int .u8 0,.int .u8 0,.int .u8 0,.int .u8 0,.int .u8 0,.int .u8 0,.int .u8 0,.int .u8 0,.int .u8 0,.int .u8 0,.int .u8 0,.int .u8 0,.int .u8 0,.int .u8 0,.int .u8 0,.int .u8 0,.int .u8 0,.int .u8 0,.int .u8 0,.int .u8 0,.int .u8 0,.int .u8 0,.int .u8 0,.int .u8 0,.int .u8 0,.int .u8 0,.int .u8 0,.int .u8 0,.int .u8 0,.int .u8 0,.int .u8 0,.int .u8 0,.int .u8 0,.int .u8 0,.int .u8 0,.int .u8 0,.int .u8 0,.int .u8 0,.int .u8 0,.int .u8 0,.int .u8 0,.int .u8 0,.int .u8 0,.int .u8 0,.int .u8 0,.int .u8 0,.int .u8 0,.int .u8 0,.int .u8 0,.int .u8 0,.int .u8 0,.int .u8 0,.int .u8 0,.int .u8 0,.int .u8 0,.int .u8 0,.int .u8 0,.int .u8 0,.int .u8 0,.int .u8 0,.int .u8 0,.int .u8 0,.int .u8 0,.int .u8 0,.int .u8 0,.int .u8 0,.int .u8 0,.int .u8 0,.int .u8 0,.int .u8 0,.int .u8 0,.int .u8 0,.int .u8 0,.int .u8 0,.int .u8 0,.int .u8 0,.int .u8 0,.int .u8 0,.int .u8 0,.int .u8 0,.int .u8 0,.int .u8 0,.int .u8 0,.int .u8 0,.int .u8 0,.int .u8 0,.int .u8 0,.int .u8 0,.int .u8 0,.int .u8 0,.int .u8 0,.int .u8 0,.int .u8 0,.int .u8 0,.int .u8 0,.int .u8 0,.int .u8 0,.int .u8 0,.int .u8 0,.int .u8 0,.int .u8 0,.int .u8 0,.int .u8 0,.int .u8 0,.int .u8 0,.int .u8 0,.int .u8 0,.int .u8 0,.int .u8 0,.int .u8 0,.int .u8 0,.int .u8 0,.int .u8 0,.int .u8 0,.int .u8 0,.int .u8 0,.int .u8 0,.int .u8 0,.int .u8 0,.int .u8 0,.int .u8 0,.int .u8 0,.int .u8 0,.int .u8 0,.int .u8 0,.int .u8 0,.int .u8 0,.int .u8 0,.int .u8 0,.int .u8 0,.int .u8 0,.int .u8 0,.int .u8 0,.int .u8 0,.int .u8 0,.int .u8 0,.int .u8 0,.int .u8 0,.int .u8 0,.int .u8 0,.int .u8 0,.int .u8 0,.int .u8 0,.int .u8 0,.int .u8 0,.int .u8 0,.int .u8 0,.int .u8 0,.int .u8 0,.int .u8 0,.int .u8 0,.int .u8 0,.int .u8 0,.int .u8 0,.int .u8 0,.int .u8 0,.int .u8 0,.int .u8 0,.int .u8 0,.int .u8 0,.int .u8 0,.int .u8 0,.int .u8 0,.int .u8 0,.int .u8 0,.int .u8 0,.int .u8 0,.int .u8 0,.int .u8 0,.int .u8 0,.int .u8 0,.int .u8 0,.int .u8 0,.int .u8 0,.int .u8 0,.int .u8 0,.int .u8 0,.int .u8 0,.int .u8 0,.int .u8 0,.int .u8 0,.int .u8 0,.int .u8 0,.int .u8 0,.int .u8 0,.int .u8 0,.int .u8 0,.int .u8 0,.int .u8 0,.int .u8 0,.int .u8 0,.int .u8 0,.int .u8 0,.int .u8 0,.int .u8 0,.int .u8 0,.int .u8 0,.int .u8 0,.int .u8 0,.int .u8 0,.int .u8 0,.int .u8 0,.int .u8 0,.int .u8 0,.int .u8 0,.int .u8 0,.int .u8 0,.int .u8 0,.int .u8 0,.int .u8 0,.int .u8 0,.int .u8 0,.int .u8 0,.int .u8 0,.int .u8 0,.int .u8 0,.int .u8 0,.int .u8 0,.int .u8 0,.int .u8 0,.int .u8 0,.int .u8 0,.int .u8 0,.int .u8 0,.int .u8 0,.int .u8 0,.int .u8 0,.int .u8 0,.int .u8 0,.int .u8 0,.int .u8 0,.int .u8 0,.int .u8 0,.int .u8 0,.int .u8 0,.int .u8 0,.int .u8 0,.int .u8 0,.int .u8 0,.int .u8 0,.int .u8 0,.int .u8 0,.int .u8 0,.int .u8 0,.int .u8 0,.int .u8 0,.int .u8 0,.int .u8 0,.int .u8 0,.int .u8 0,.int .u8 0,.int .u8 0,.int .u8 0,.int .u8 0,.int .u8 0,.int .u8 0,.int .u8 0,.int .u8 0,.int .u8 0,.int .u8 0,.int .u8 0,.int .u8 0,.int .u8 0,.int .u8 0,.int .u8 0,.int .u8 0,.int .u8 0,.int .u8 0,.int .u8 0,.int .u8 0,.int .u8 0,.int .u8 0,.int .u8 0,.int .u8 0,.int .u8 0,.int .u8 0,.int .u8 0,.int .u8 0,.int .u8 0,.int .u8 0,.int .u8 0,.int .u8 0,.int .u8 0,.int .u8 0,.int .u8 0,.int .u8 0,.int .u8 0,.int .u8 0,.int .u8 0,.int .u8 0,.int .u8 0,.int .u8 0,.int .u8 0,.int .u8 0,.int .u8 0,.int .u8 0,.int .u8 0,.int .u8 0,.int .u8 0,.int .u8 0,.int .u8 0,.int .u8 0,.int .u8 0,.int .u8 0,.int .u8 0,.int .u8 0,.int .u8 0,.int .u8 0,.int .u8 0,.int .u8 0,.int .u8 0,.int .u8 0,.int .u8 0,.int .u8 0,.int .u8 0,.int .u8 0,.int .u8 0,.int .u8 0,.int .u8 0,.int .u8 0,.int .u8 0,.int .u8 0,.int .u8 0,.int .u8 0,.int .u8 0,.int .u8 0,.int .u8 0,.int .u8 0,.int .u8 0,.int .u8 0,.int .u8 0,.int .u8 0,.int .u8 0,.int .u8 0,.int .u8 0,.int .u8 0,.int .u8 0,.int .u8 0,.int .u8 0,.int .u8 0,.int .u8 0,.int .u8 0,.int .u8 0,.int .u8 0,.int .u8 0,.int .u8 0,.int .u8 0,.int .u8 0,.int .u8 0,.int .u8 0,.int .u8 0,.int .u8 0,.int .u8 0,.int .u8 0,.int .u8 0,.int .u8 0,.int .u8 0,.int .u8 0,.int .u8 0,.int .u8 0,.int .u8 0,.int .u8 0,.int .u8 0,.int .u8 0,.int .u8 0,.int .u8 0,.int .u8 0,.int .u8 0,.int .u8 0,.int .u8 0,.int .u8 0,.int .u8 0,.int .u8 0,.int .u8 0,.int .u8 0,.int .u8 0,.int .u8 0,.int .u8 0,.int .u8 0,.int .u8 0,.int .u8 0,.int .u8 0,.int .u8 0,.int .u8 0,.int .u8 0,.int .u8 0,.int .u8 0,.int .u8 0,.int .u8 0,.int .u8 0,.int .u8 0,.int .u8 0,.int .u8 0]) 512 512 blocks blocks d fun e f=>new (Obj.cells #[.slice e.a e.len e.cap,.slice none 0 0,.int .i64 (-1),.bool false,.int .i64 0] 112) f fun g h=>K ((some ⟨g,0,none⟩,0)) h)
def qte:List Ann:=[.n,.n,.j [(9,.one .bool)],.n,.n]
theorem qqA {blocks w K} (hF:qnJ blocks K w):call Tryz.prog 38 [.int .i64 blocks] [.one .ptr,.one (.int .i64)] w K:=qad (an:=qte) Tryz.func38 hF
def qe2 (d:Option Addr) (K:Int->World->Prop) (w:World):Prop:=nn d fun a=>ld .slice a w fun b=>K (↑b.len:Int) w
def qkO:List Ann:=[.n,.n]
theorem qi1 {d w K} (hF:qe2 d K w):call Tryz.prog 63 [.pointer d] [.one (.int .i64)] w K:=qad (an:=qkO) Tryz.func63 hF
def qgz (d:Option Addr) (n:Int) (K:(Sl×Int)->World->Prop) (w:World):Prop:=new (Obj.cells #[.int .i64 n] 3) w fun b c=>new (Obj.cells #[.slice none 0 0] 22) c fun e f=>new (Obj.cells #[.int .i64 0] 30) f fun g h=>nn d fun i=>ld .bool ⟨i.block,i.off+3,none⟩ h fun (j:Bool)=>cond j (st ⟨e,0,none⟩ ([.slice none 0 0]) h fun k=>st ⟨g,0,none⟩ ([.int .i64 7]) k fun l=>ld .slice ⟨e,0,none⟩ l fun m=>ld (.int .i64) ⟨g,0,none⟩ l fun (o:Int)=>K ((m,o)) l) (join (Bool) (fun p=>ld (.int .i64) ⟨b,0,none⟩ (World.drew h) fun (q:Int)=>cond (decide (q<0)) (p true (World.drew h)) (ld (.int .i64) ⟨b,0,none⟩ (World.drew h) fun (r:Int)=>nn d fun s=>ld .slice s (World.drew h) fun t=>p (decide (r>=(↑t.len:Int))) (World.drew h))) fun (u:Bool) v=>cond u (st ⟨e,0,none⟩ ([.slice none 0 0]) v fun x=>st ⟨g,0,none⟩ ([.int .i64 4]) x fun y=>ld .slice ⟨e,0,none⟩ y fun z=>ld (.int .i64) ⟨g,0,none⟩ y fun (A:Int)=>K ((z,A)) y) (nn d fun B=>ld .slice ⟨B.block,B.off+1,none⟩ v fun C=>call Tryz.prog 55 ([.slice C.a C.len C.cap]) ([.one .any]) v fun (D:Value) E=>rng Tryz.prog D [.one (.int .i64),.raw] (fun (F:Int×List Value) (G:World->(World->Prop)->Prop) (H:World->Prop) I J=>newZ Tryz.prog 130 J fun L M=>chk (List.length F.snd=513)<|st ⟨L,0,none⟩ F.snd M fun N=>G N fun O=>ld (.int .i64) ⟨L,0,none⟩ O fun (P:Int)=>ld (.int .i64) ⟨b,0,none⟩ O fun (Q:Int)=>cond (P==Q) (slcP ⟨L,1,none⟩ 512 none none none 1 fun R=>call Tryz.prog 42 ([.slice R.a R.len R.cap]) ([.one .slice]) O fun S T=>st ⟨e,0,none⟩ ([.slice S.a S.len S.cap]) T fun U=>st ⟨g,0,none⟩ ([.int .i64 0]) U fun V=>I 0 V) (H O)) (fun W X=>nn d fun Y=>ld .slice Y (World.drew X) fun Z=>ld (.int .i64) ⟨b,0,none⟩ (World.drew X) fun (aa:Int)=>idx Z aa 512 fun ab=>slcP ab 512 none none none 1 fun ac=>call Tryz.prog 42 ([.slice ac.a ac.len ac.cap]) ([.one .slice]) (World.drew X) fun ad ae=>st ⟨e,0,none⟩ ([.slice ad.a ad.len ad.cap]) ae fun af=>st ⟨g,0,none⟩ ([.int .i64 0]) af fun ag=>undefer W ag fun ah=>ld .slice ⟨e,0,none⟩ ah fun ai=>ld (.int .i64) ⟨g,0,none⟩ ah fun (aj:Int)=>K ((ai,aj)) ah) [fun ak al=>undefer ak al fun am=>ld .slice ⟨e,0,none⟩ am fun an=>ld (.int .i64) ⟨g,0,none⟩ am fun (ao:Int)=>K ((an,ao)) am] E))
def qmC:List Ann:=[.n,.n,.n,.n,.j [(13,.one .bool)],.o [[0,1,2,3,4,5,6,7,8,9,10,11]],.n,.n,.n,.r [.one (.int .i64),.raw],.n,.n,.n,.o [[0,1,2,3,4,5,6,7,8,9]]]
theorem qkN {d n w K} (hF:qgz d n K w):call Tryz.prog 19 [.pointer d,.int .i64 n] [.one .slice,.one (.int .i64)] w K:=qlV (an:=qmC) Tryz.func19 hF
def qhg (d:Option Addr) (K:Bool->World->Prop) (w:World):Prop:=nn d fun a=>ld (.int .i64) ⟨a.block,a.off+2,none⟩ w fun (b:Int)=>cond (b==0) (nn d fun c=>st ⟨c.block,c.off+3,none⟩ ([.bool true]) w fun e=>K true e) (join (PUnit) (fun f=>nn d fun g=>ld (.int .i64) ⟨g.block,g.off+2,none⟩ w fun (h:Int)=>cond (decide (h>0)) (nn d fun i=>ld (.int .i64) ⟨i.block,i.off+2,none⟩ w fun (j:Int)=>nn d fun k=>st ⟨k.block,k.off+2,none⟩ ([.int .i64 (IntKind.wrap .i64 (j-1))]) w fun l=>f () l) (f () w)) fun (m:PUnit) n=>K false n)
def qno:List Ann:=[.n,.n,.n,.n,.n,.j [],.n,.n]
theorem qlE {d w K} (hF:qhg d K w):call Tryz.prog 75 [.pointer d] [.one .bool] w K:=qad (an:=qno) Tryz.func75 hF
def qf4 (d:Option Addr) (n:Int) (b:Sl) (K:Int->World->Prop) (w:World):Prop:=nn d fun c=>ld .bool ⟨c.block,c.off+3,none⟩ w fun (e:Bool)=>cond e (K 7 w) (join (Bool) (fun f=>cond (decide (n<0)) (f true w) (nn d fun g=>ld .slice g w fun h=>f (decide (n>=(↑h.len:Int))) w)) fun (i:Bool) j=>cond i (K 4 j) (cond (!(↑b.len:Int)==512) (K 1 j) (nn d fun k=>ld .slice ⟨k.block,k.off+1,none⟩ (World.drew j) fun l=>s2a b 512 fun m=>ldV 512 m (World.drew j) fun o=>runQ [.raw] (fun p=>(Instr.build 130 (#[(0,.int .i64 n),(1,.agg (List.toArray o))])).run Tryz.prog p) (World.drew j) fun q=>chk (List.length q=513)<|new (Obj.cells (List.toArray q) 130) (World.drew j) fun r s=>held [fun t=>World.cell? t ⟨k.block,k.off+1,none⟩=some (.slice l.a l.len l.cap)] s<|run [.one .slice] ((Builtin.append_ (#[110,110]) 110 (#[.slice l.a l.len l.cap,.slice (some ⟨r,0,none⟩) 1 1])).run Tryz.prog s) fun u v=>nn d fun x=>st ⟨x.block,x.off+1,none⟩ ([.slice u.a u.len u.cap]) v fun y=>nn d fun z=>ld (.int .i64) ⟨z.block,z.off+4,none⟩ y fun (A:Int)=>nn d fun B=>st ⟨B.block,B.off+4,none⟩ ([.int .i64 (IntKind.wrap .i64 (A+1))]) y fun C=>call Tryz.prog 75 ([.pointer d]) ([.one .bool]) C fun (D:Bool) E=>cond D (K 7 E) (K 0 E))))
def qlx:List Ann:=[.n,.n,.n,.n,.j [(12,.one .bool)],.n,.n,.n,.n,.o [[0,1,2,3,4,5,6,7,8,9,10,11,12,13,14]],.n,.n,.n,.n,.n]
theorem qjw {d n b w K} (hF:qf4 d n b K w):call Tryz.prog 28 [.pointer d,.int .i64 n,.slice b.a b.len b.cap] [.one (.int .i64)] w K:=qad (an:=qlx) Tryz.func28 hF
def qgJ (d:Option Addr) (K:Int->World->Prop) (w:World):Prop:=join (Bool) (fun a=>nn d fun b=>ld .bool ⟨b.block,b.off+3,none⟩ w fun (c:Bool)=>cond c (a true w) (call Tryz.prog 75 ([.pointer d]) ([.one .bool]) w fun (e:Bool) f=>a e f)) fun (g:Bool) h=>cond g (K 7 h) (nn d fun i=>ld .slice ⟨i.block,i.off+1,none⟩ h fun j=>loop (Int) (fun k (l:Int) m=>cond (decide (l<(↑j.len:Int))) (idx j l 513 fun n=>ldV 513 n m fun o=>newZ Tryz.prog 130 m fun p q=>chk (List.length o=513)<|st ⟨p,0,none⟩ o q fun r=>nn d fun s=>ld .slice s (World.drew r) fun t=>ld (.int .i64) ⟨p,0,none⟩ (World.drew r) fun (u:Int)=>ldV 512 ⟨p,1,none⟩ (World.drew r) fun v=>idx t u 512 fun x=>chk (List.length v=512)<|st x v (World.drew r) fun y=>k (IntKind.wrap .i64 (l+1)) y) (nn d fun z=>st ⟨z.block,z.off+1,none⟩ ([.slice none 0 0]) m fun A=>K 0 A)) 0 h)
def ql2:List Ann:=[.n,.n,.j [(12,.one .bool)],.n,.n,.n,.l [(18,.one (.int .i64))],.n,.n,.n,.n,.o [[0,1,2,3,4,5,6,7,8,9]],.n,.n]
theorem qku {d w K} (hF:qgJ d K w):call Tryz.prog 87 [.pointer d] [.one (.int .i64)] w K:=qad (an:=ql2) Tryz.func87 hF
def qgH (d:Option Addr) (acts:Int) (K:Unit->World->Prop) (w:World):Prop:=nn d fun a=>ld .bool ⟨a.block,a.off+3,none⟩ w fun (b:Bool)=>cond (!b) (nn d fun c=>st ⟨c.block,c.off+2,none⟩ ([.int .i64 (if -1>acts then -1 else acts)]) w fun e=>K () e) (K () w)
def qmB:List Ann:=[.n]
theorem qkA {d acts w K} (hF:qgH d acts K w):call Tryz.prog 17 [.pointer d,.int .i64 acts] [] w K:=qad (an:=qmB) Tryz.func17 hF
def qfB (d:Option Addr) (l:Sl) (K:Unit->World->Prop) (w:World):Prop:=join (PUnit) (fun b=>nn d fun c=>ld .slice ⟨c.block,c.off+1,none⟩ w fun e=>loop (Int) (fun f (g:Int) h=>cond (decide (g<(↑e.len:Int))) (join (PUnit) (fun i=>idx e g 513 fun j=>ldV 513 j h fun k=>newZ Tryz.prog 130 h fun m n=>chk (List.length k=513)<|st ⟨m,0,none⟩ k n fun o=>cond (decide (g>=(↑l.len:Int))) (b () o) (idx l g 2 fun p=>ld (.int .i64) p o fun (q:Int)=>idx l g 2 fun r=>ld (.int .i64) ⟨r.block,r.off+1,none⟩ o fun (s:Int)=>cond (decide ((if 512<if 0>q then 0 else q then 512 else if 0>q then 0 else q)<if 512<if 0>s then 0 else s then 512 else if 0>s then 0 else s)) (nn d fun t=>ld .slice t (World.drew o) fun u=>ld (.int .i64) ⟨m,0,none⟩ (World.drew o) fun (v:Int)=>idx u v 512 fun x=>slcP x 512 (some (if 512<if 0>q then 0 else q then 512 else if 0>q then 0 else q)) (some (if 512<if 0>s then 0 else s then 512 else if 0>s then 0 else s)) none 1 fun y=>slcP ⟨m,1,none⟩ 512 (some (if 512<if 0>q then 0 else q then 512 else if 0>q then 0 else q)) (some (if 512<if 0>s then 0 else s then 512 else if 0>s then 0 else s)) none 1 fun z=>run [.one (.int .i64)] ((Builtin.copy_ (#[22,22]) 3 (#[.slice y.a y.len y.cap,.slice z.a z.len z.cap])).run Tryz.prog (World.drew o)) fun (A:Int) B=>i () B) (i () o))) fun (C:PUnit) D=>f (IntKind.wrap .i64 (g+1)) D) (b () h)) 0 w) fun (E:PUnit) F=>nn d fun G=>st ⟨G.block,G.off+1,none⟩ ([.slice none 0 0]) F fun H=>nn d fun I=>st ⟨I.block,I.off+3,none⟩ ([.bool false]) H fun J=>nn d fun L=>st ⟨L.block,L.off+2,none⟩ ([.int .i64 (-1)]) J fun M=>K () M
def qlz:List Ann:=[.j [],.n,.l [(13,.one (.int .i64))],.n,.n,.j [],.n,.n,.n,.n,.n,.n,.o [[0,1,2,3,4,5,6,7,8,9,10,11,12,13,14]]]
theorem qjv {d l w K} (hF:qfB d l K w):call Tryz.prog 22 [.pointer d,.slice l.a l.len l.cap] [] w K:=qad (an:=qlz) Tryz.func22 hF
def qfT (d:Option Addr) (K:Int->World->Prop) (w:World):Prop:=nn d fun a=>ld .slice ⟨a.block,a.off+1,none⟩ w fun b=>K (↑b.len:Int) w
def qlB:List Ann:=[.n,.n]
theorem qjW {d w K} (hF:qfT d K w):call Tryz.prog 60 [.pointer d] [.one (.int .i64)] w K:=qad (an:=qlB) Tryz.func60 hF
def qfG (s:Sl) (K:Value->World->Prop) (w:World):Prop:=new (Obj.cells #[.slice s.a s.len s.cap] 110) w fun b c=>K (Value.func (Fn.func 98) #[] #[.pointer (some ⟨b,0,none⟩)]) c
def qlT:List Ann:=[.n,.n]
theorem qjA {s w K} (hF:qfG s K w):call Tryz.prog 55 [.slice s.a s.len s.cap] [.one .any] w K:=qad (an:=qlT) Tryz.func55 hF
def qdG (yield:Value) (cap0:Addr) (K:Unit->World->Prop) (w:World):Prop:=ld .slice cap0 w fun a=>loop (Int) (fun b (c:Int) d=>cond (decide (c>=0)) (ld .slice cap0 d fun e=>idx e c 513 fun f=>ldV 513 f d fun g=>callV Tryz.prog yield ([.int .i64 c,.agg (List.toArray g)]) ([.one .bool]) d fun (h:Bool) i=>cond (!h) (K () i) (b (IntKind.wrap .i64 (c-1)) i)) (K () d)) (IntKind.wrap .i64 ((↑a.len:Int)-1)) w
def qjb:List Ann:=[.n,.l [(3,.one (.int .i64))],.n,.n,.n,.n]
theorem qg8 {yield cap0 w K} (hF:qdG yield cap0 K w):call Tryz.prog 98 [yield,.pointer (some cap0)] [] w K:=qad (an:=qjb) Tryz.func98 hF
end Go.Proofs.YtmbcedengdoamaaGreatDoor
end
section
set_option linter.unusedVariables false
set_option linter.unusedSimpArgs false
namespace Go.Proofs.YtmbcedengdoamaaGreatDoor
open Go Go.Pt
attribute [local irreducible] ld ldA ldV fld fldA newZ st new idx idxS idxA slc slcS slcP mkS chk nn call callV inv run runQ runU join loop held ext rng undefer s2a nxt ent IntKind.wrap
abbrev Blk:={l:List Int // l.length=512}
def encK (b:Blk):List Value:=b.1.map (Value.int .u8)
theorem qaP (b:Blk):(encK b).length=512:=by rw [encK,List.length_map,b.2]
def encW (x:Int×Blk):List Value:=Value.int .i64 x.1::encK x.2
theorem qbe (x:Int×Blk):(encW x).length=513:=by rw [encW,List.length_cons,qaP]
def Blk.zero:Blk:=⟨zs 512,qaC 512⟩
structure DiskM where
 safe:List Blk
 waits:List (Int×Blk)
 fuse:Int
 down:Bool
 writes:Int
structure DiskM.Ok (D:DiskM):Prop where
 at_:∀ x∈D.waits,0<=x.1/\x.1<D.safe.length
 fuse:-1<=D.fuse/\D.fuse<=1000000000
 safe:D.safe.length<=4096
 waits:D.waits.length<=1000000
 writes:0<=D.writes/\D.writes<=1000000000
 bytesS:∀ b∈D.safe,IsB b.1
 bytesW:∀ x∈D.waits,IsB x.2.1
abbrev DT:TypeId:=112
def dCells (D:DiskM) (sb:Nat) (wsl:Sl):Array Value:=#[.slice (some ⟨sb,0,none⟩) D.safe.length D.safe.length,.slice wsl.a wsl.len wsl.cap,.int .i64 D.fuse,.bool D.down,.int .i64 D.writes]
def DiskAt (w:World) (db:Nat) (F:List Nat) (D:DiskM):Prop:=
 ∃ (sb:Nat) (T:TypeId) (wsl:Sl) (B:List Nat),F=db::sb::B/\(db::sb::B).Nodup/\w.heap[db]?=some (.cells (dCells D sb wsl) DT (0,0))/\w.heap[sb]?=some (.cells (D.safe.flatMap encK).toArray T (0,0))/\Buf encW 513 w wsl D.waits B
theorem DiskAt.frame {w w':World} {db:Nat} {F S:List Nat} {D:DiskM} (h:DiskAt w db F D) (f:Fr S w w') (hd:∀ b∈F,b∉S):DiskAt w' db F D:=by
 obtain ⟨sb,T,wsl,B,rfl,hn,h1,h2,h3⟩:=h
 exact ⟨sb,T,wsl,B,rfl,hn,by rw [f.block db (qac h1) (hd _ (by simp))]; exact h1,by rw [f.block sb (qac h2) (hd _ (by simp))]; exact h2,h3.frame f (fun b hb=>hd b (by simp [hb]))⟩
theorem DiskAt.frame0 {w w':World} {db:Nat} {F:List Nat} {D:DiskM} (h:DiskAt w db F D) (f:Fr [] w w'):DiskAt w' db F D:=h.frame f (fun _ _ h=>by cases h)
theorem DiskAt.lt {w:World} {db:Nat} {F:List Nat} {D:DiskM} (h:DiskAt w db F D):∀ b∈F,b<w.heap.size:=by
 obtain ⟨sb,T,wsl,B,rfl,hn,h1,h2,h3⟩:=h
 intro b hb
 simp only [List.mem_cons] at hb
 rcases hb with rfl | rfl | hb
 ·exact qac h1
 ·exact qac h2
 ·exact h3.lt b hb
theorem DiskAt.cell {w:World} {db:Nat} {F:List Nat} {D:DiskM} (h:DiskAt w db F D):∃ sb wsl,w.heap[db]?=some (.cells (dCells D sb wsl) DT (0,0)):=by
 obtain ⟨sb,T,wsl,B,rfl,hn,h1,h2,h3⟩:=h
 exact ⟨sb,wsl,h1⟩
theorem DiskAt.mem {w:World} {db:Nat} {F:List Nat} {D:DiskM} (h:DiskAt w db F D):db∈F:=by
 obtain ⟨sb,T,wsl,B,rfl,_⟩:=h
 simp
def dCellsC (D:DiskM) (sb c:Nat) (wsl:Sl):Array Value:=#[.slice (some ⟨sb,0,none⟩) D.safe.length c,.slice wsl.a wsl.len wsl.cap,.int .i64 D.fuse,.bool D.down,.int .i64 D.writes]
def DiskZ (w:World) (db:Nat) (F:List Nat) (D:DiskM) (c:Nat) (Z:List Value):Prop:=
 ∃ (sb:Nat) (T:TypeId) (wsl:Sl) (B:List Nat),F=db::sb::B/\(db::sb::B).Nodup/\w.heap[db]?=some (.cells (dCellsC D sb c wsl) DT (0,0))/\w.heap[sb]?=some (.cells (D.safe.flatMap encK++Z).toArray T (0,0))/\Buf encW 513 w wsl D.waits B
theorem DiskAt.z {w:World} {db:Nat} {F:List Nat} {D:DiskM} (h:DiskAt w db F D):DiskZ w db F D D.safe.length []:=by
 obtain ⟨sb,T,wsl,B,rfl,hn,h1,h2,h3⟩:=h
 exact ⟨sb,T,wsl,B,rfl,hn,h1,by rw [List.append_nil]; exact h2,h3⟩
theorem DiskZ.at {w:World} {db:Nat} {F:List Nat} {D:DiskM} (h:DiskZ w db F D D.safe.length []):DiskAt w db F D:=by
 obtain ⟨sb,T,wsl,B,rfl,hn,h1,h2,h3⟩:=h
 exact ⟨sb,T,wsl,B,rfl,hn,h1,by rw [List.append_nil] at h2; exact h2,h3⟩
theorem DiskAt.turn {w w':World} {db:Nat} {F:List Nat} {D D':DiskM} {sb:Nat} {wsl:Sl} (h:DiskAt w db F D) (hc:w.heap[db]?=some (.cells (dCells D sb wsl) DT (0,0))) (f:Fr [db] w w') (hs:D'.safe=D.safe) (hw:D'.waits=D.waits) (hc':w'.heap[db]?=some (.cells (dCells D' sb wsl) DT (0,0))):DiskAt w' db F D':=by
 obtain ⟨sb',T,wsl',B,rfl,hn,h1,h2,h3⟩:=h
 have he:sb'=sb/\wsl'=wsl:=by
  have q:=h1.symm.trans hc
  have q0:=congrArg (fun o=>match o with | some (Obj.cells cs _ _)=>(match cs[0]? with | some (Value.slice (some a) _ _)=>a.block | _=>0) | _=>0) q
  have q1:=congrArg (fun o=>match o with | some (Obj.cells cs _ _)=>cs[1]? | _=>none) q
  refine ⟨q0,?_⟩
  have q2:Value.slice wsl'.a wsl'.len wsl'.cap=Value.slice wsl.a wsl.len wsl.cap:=Option.some.inj q1
  cases wsl
  cases wsl'
  simp only [Value.slice.injEq] at q2
  obtain ⟨rfl,rfl,rfl⟩:=q2
  rfl
 obtain ⟨rfl,rfl⟩:=he
 have hsb:sb'≠db:=fun e=>by rw [e] at hn; simp at hn
 have hB:∀ b∈B,b∉[db]:=fun b hb he=>by simp at he; subst he; simp at hn; exact hn.1.2 hb
 exact ⟨sb',T,wsl',B,rfl,hn,hc',by rw [hs,f.block sb' (qac h2) (by simpa using hsb)]; exact h2,by rw [hw]; exact h3.frame f hB⟩
theorem qkb {w:World} {db:Nat} {F:List Nat} {D:DiskM} {K:Int->World->Prop} (h:DiskAt w db F D) (hk:K D.safe.length w):call Tryz.prog 63 [.pointer (some ⟨db,0,none⟩)] [.one (.int .i64)] w K:=by
 refine qi1 (d:=some ⟨db,0,none⟩) ?_
 unfold qe2
 obtain ⟨sb,wsl,hc⟩:=h.cell
 refine qab (qae (c:=.slice) hc ⟨some ⟨sb,0,none⟩,D.safe.length,D.safe.length⟩ rfl ?_)
 exact hk
def newM (blocks:Nat):DiskM:=⟨List.replicate blocks .zero,[],-1,false,0⟩
theorem quY {n:Nat} (h:n<=4096):(newM n).Ok:=
 ⟨fun _ h=>(by cases h),⟨by show (-1:Int)<=-1; decide,by show (-1:Int)<=1000000000; decide⟩,by rw [newM]; simpa using h,by simp [newM],by simp [newM],fun b hb=>by rw [List.eq_of_mem_replicate hb]; exact IsB.zs 512,fun _ h=>(by cases h)⟩
theorem qqZ (n:Nat) (b:Blk):(List.replicate n (encK b)).flatten=(List.replicate n b).flatMap encK:=by
 rw [List.flatMap_def,List.map_replicate]
set_option maxRecDepth 100000 in
theorem qvC {w:World} {blocks:Int} {K:Option Addr×Int->World->Prop} (hbad:(blocks<8\/blocks>4096)->K (none,1) w)
  (hk:8<=blocks->blocks<=4096->∀ db F w',DiskAt w' db F (newM blocks.toNat)->Fr [] w w'->(∀ b∈F,w.heap.size<=b)->K (some ⟨db,0,none⟩,0) w') :
  call Tryz.prog 38 [.int .i64 blocks] [.one .ptr,.one (.int .i64)] w K:=by
 refine qqA ?_
 unfold qnJ
 refine qaf (fun b w'=>b=decide (blocks<8\/blocks>4096)/\w'=w) ?_ ?_
 ·refine qaa (fun hc=>?_) (fun hc=>?_)
  ·exact ⟨by rw [decide_eq_true (Or.inl (of_decide_eq_true hc))],rfl⟩
  ·have:=of_decide_eq_false hc
   exact ⟨by simp [this],rfl⟩
 rintro b w1 ⟨rfl,rfl⟩
 refine qaa (fun hc=>hbad (of_decide_eq_true hc)) (fun hc=>?_)
 have hr:=of_decide_eq_false hc
 have h8:8<=blocks:=by omega
 have h4:blocks<=4096:=by omega
 obtain ⟨n,rfl⟩:∃ n:Nat,blocks=n:=⟨blocks.toNat,by omega⟩
 refine Own.mkN (zero:=encK Blk.zero) (Own.start [] w1) (qaP _) (by omega) (by omega) (by omega) (by omega) fun sb w2 e2 ho=>?_
 refine Own.new ho fun db w3 e3 s3 ho=>?_
 have hlit:(List.replicate (n:Int).toNat (encK Blk.zero)).flatten=((newM n).safe).flatMap encK:=by rw [Int.toNat_natCast]; exact qqZ n _
 refine hk h8 h4 db [db,sb] w3 ⟨sb,128,⟨none,0,0⟩,[],rfl,?_,?_,?_,.nil _ _ _⟩ ho.fr (fun b hb=>?_)
 ·have:=ho.nodup; simpa using this
 ·have:=ho.at (i:=0) rfl
  rw [this]
  simp [dCells,newM]
 ·have:=ho.at (i:=1) rfl
  rw [this,Int.toNat_natCast,<- hlit,Int.toNat_natCast]
 ·simp at hb
  have:=ho.own
  rcases hb with rfl | rfl
  ·have:=ho.own (b,_) (List.mem_of_getElem? (i:=0) rfl)
   simpa using this
  ·have:=ho.own (b,_) (List.mem_of_getElem? (i:=1) rfl)
   simpa using this
def actM (D:DiskM):DiskM×Bool:=if D.fuse=0 then ({ D with down:=true },true) else if D.fuse>0 then ({ D with fuse:=D.fuse-1 },false) else (D,false)
theorem qs5 {w:World} {db:Nat} {F:List Nat} {D:DiskM} {K:Bool->World->Prop} (h:DiskAt w db F D) (hD:D.fuse<=1000000000) (hk:∀ w',DiskAt w' db F (actM D).1->Fr [db] w w'->K (actM D).2 w') :
  call Tryz.prog 75 [.pointer (some ⟨db,0,none⟩)] [.one .bool] w K:=by
 refine qlE (d:=some ⟨db,0,none⟩) ?_
 unfold qhg
 obtain ⟨sb,wsl,hc⟩:=h.cell
 have ho:Own [db] w w [(db,.cells (dCells D sb wsl) DT (0,0))]:=⟨by simpa using hc,by simp,.refl _ _,by simp⟩
 refine qab (Own.ld (c:=.int .i64) ho 0 rfl D.fuse rfl ?_)
 refine qaa (fun hz=>?_) (fun hz=>?_)
 ·have hz':D.fuse=0:=by simpa using hz
  refine qab ?_
  refine Own.st ho 0 rfl _ rfl rfl rfl fun w1 ho _=>?_
  have:=hk w1 (by rw [actM,if_pos hz']; exact h.turn hc ho.fr rfl rfl (ho.at (i:=0) rfl)) ho.fr
  rw [actM,if_pos hz'] at this
  exact this
 ·have hz':¬ D.fuse=0:=by simpa using hz
  refine qaf (fun _ w'=>DiskAt w' db F (actM D).1/\Fr [db] w w') ?_ ?_
  ·refine qab (Own.ld (c:=.int .i64) ho 0 rfl D.fuse rfl ?_)
   refine qaa (fun hp=>?_) (fun hp=>?_)
   ·have hp':D.fuse>0:=of_decide_eq_true hp
    refine qab (Own.ld (c:=.int .i64) ho 0 rfl D.fuse rfl ?_)
    refine qab ?_
    rw [wi' _ (by omega)]
    refine Own.st ho 0 rfl _ rfl rfl rfl fun w1 ho _=>?_
    refine ⟨?_,ho.fr⟩
    rw [actM,if_neg hz',if_pos hp']
    exact h.turn hc ho.fr rfl rfl (ho.at (i:=0) rfl)
   ·have hp':¬ D.fuse>0:=of_decide_eq_false hp
    refine ⟨?_,.refl _ _⟩
    rw [actM,if_neg hz',if_neg hp']
    exact h
  ·rintro _ w1 ⟨h1,h2⟩
   have:=hk w1 h1 h2
   have e:(actM D).2=false:=by rw [actM,if_neg hz']; split <;> rfl
   rw [e] at this
   exact this
theorem quU:∃ i,Tryz.prog.info? 130=some i/\(∃ z,i.zero=some z/\z.cells.size=513)/\i.size=513/\i.bytes=520:=by
 have h:(Tryz.prog.info? 130).map (fun i=>(i.zero.map (fun z=>z.cells.size),i.size,i.bytes))=some (some 513,513,520):=by kernel_rfl
 obtain ⟨i,hi,he⟩:=Option.map_eq_some_iff.1 h
 simp only [Prod.mk.injEq] at he
 obtain ⟨z,hz,hzs⟩:=Option.map_eq_some_iff.1 he.1
 exact ⟨i,hi,⟨z,hz,hzs⟩,he.2.1,he.2.2⟩
def addW (D:DiskM) (n:Int) (b:Blk):DiskM:={ D with waits:=D.waits++[(n,b)],writes:=D.writes+1 }
def writeM (D:DiskM) (n:Int) (l:List Int):DiskM×Int:=
 if D.down then (D,7) else if n<0\/n>=D.safe.length then (D,4) else
 if h:l.length=512 then ((actM (addW D n ⟨l,h⟩)).1,if (actM (addW D n ⟨l,h⟩)).2 then 7 else 0) else (D,1)
theorem qqK (n:Int) (b:Blk) (w:World):(Instr.build 130 #[(0,.int .i64 n),(1,.agg (encK b).toArray)]).run Tryz.prog w=.ok (.agg (encW (n,b)).toArray) w:=by
 obtain ⟨z,hz,hzs⟩:∃ z,(Tryz.prog.info? 130).bind (·.zero)=some z/\z.cells.size=513:=by
  obtain ⟨i,hi,⟨z,hz,hzs⟩,_⟩:=quU
  exact ⟨z,by rw [hi]; exact hz,hzs⟩
 have:=qsx (P:=Tryz.prog) (a:=.int .i64 n) (b:=.agg (encK b).toArray) (o1:=1) (s0:=1) (s1:=512) hz (by kernel_rfl) (fun w=>by kernel_rfl) rfl (by show (encK b).toArray.size=512; rw [List.size_toArray,qaP]) rfl hzs w
 exact this
theorem qkL (l:List Int):((l.map (Value.int .u8)).all Value.oneCell')=true:=by
 rw [List.all_eq_true]
 intro v hv
 obtain ⟨x,_,rfl⟩:=List.mem_map.1 hv
 rfl
theorem qpg (b:Blk):((encK b).all Value.oneCell')=true:=qkL _
theorem qhX (x:Int×Blk):((encW x).all Value.oneCell')=true:=by
 rw [encW,List.all_cons,qpg]; rfl
theorem qs9 {S:List Nat} {w:World} {s:Sl} {l:List Int} (h:RdB S w s l) (hl:l≠[]):∃ b o cs T fr,s.a=some ⟨b,o,none⟩/\w.heap[b]?=some (.cells cs T fr)/\b∉S/\(cs.toList.drop o).take l.length=l.map (Value.int .u8):=by
 rcases h.2.2 with h3 | ⟨b,o,cs,T,fr,ha,hb,hS,hc⟩
 ·exact absurd h3 hl
 ·refine ⟨b,o,cs,T,fr,ha,hb,hS,?_⟩
  apply List.ext_getElem?
  intro i
  rw [List.getElem?_take,List.getElem?_map]
  by_cases hi:i<l.length
  ·rw [if_pos hi,List.getElem?_drop,List.getElem?_eq_getElem hi]
   have:=hc i l[i] (List.getElem?_eq_getElem hi)
   rw [Nat.mul_one] at this
   have:=congrArg (·[0]?) this
   simpa using this
  ·rw [if_neg hi,List.getElem?_eq_none (by omega)]
   rfl
theorem qop {S:List Nat} {w:World} {db:Nat} {F:List Nat} {D:DiskM} {n:Int} {s:Sl} {l:List Int} {K:Int->World->Prop} (h:DiskAt w db F D) (hD:D.Ok) (hs:RdB S w s l)
  (hk:∀ F' w',DiskAt w' db F' (writeM D n l).1->Fr F w w'->(∀ b∈F',b∈F\/w.heap.size<=b)->K (writeM D n l).2 w') :
  call Tryz.prog 28 [.pointer (some ⟨db,0,none⟩),.int .i64 n,.slice s.a s.len s.cap] [.one (.int .i64)] w K:=by
 refine qjw (d:=some ⟨db,0,none⟩) (b:=s) ?_
 unfold qf4
 have hlen:=hs.1
 have hdb:=h.mem
 obtain ⟨sb,T,wsl,B,hF,hn,hc,hsb,hbuf⟩:=h
 have h:DiskAt w db F D:=⟨sb,T,wsl,B,hF,hn,hc,hsb,hbuf⟩
 have ho:Own F w w [(db,.cells (dCells D sb wsl) DT (0,0))]:=⟨by simpa using hc,by simp,.refl _ _,by simp [hdb]⟩
 refine qab (Own.ld (c:=.bool) ho 0 rfl D.down rfl ?_)
 have same:∀ {e:Int},writeM D n l=(D,e)->∀ {w'},w'=w->K e w':=by
  rintro e he w' rfl
  have:=hk F w' (by rw [he]; exact h) (.refl _ _) (fun b hb=>.inl hb)
  rw [he] at this
  exact this
 refine qaa (fun hd=>same (by rw [writeM,if_pos hd]) rfl) (fun hd=>?_)
 refine qaf (fun b w'=>b=decide (n<0\/n>=D.safe.length)/\w'=w) ?_ ?_
 ·refine qaa (fun hc=>?_) (fun hc=>?_)
  ·exact ⟨by rw [decide_eq_true (Or.inl (of_decide_eq_true hc))],rfl⟩
  ·refine qab (Own.ld (c:=.slice) ho 0 rfl ⟨some ⟨sb,0,none⟩,D.safe.length,D.safe.length⟩ rfl ⟨?_,rfl⟩)
   have:=of_decide_eq_false hc
   by_cases h2:n>=D.safe.length <;> simp [this,h2]
 rintro b w1 ⟨rfl,rfl⟩
 refine qaa (fun hr=>same (by rw [writeM,if_neg (by simpa using hd),if_pos (of_decide_eq_true hr)]) rfl) (fun hr=>?_)
 have hr':=of_decide_eq_false hr
 refine qaa (fun hq=>same ?_ rfl) (fun hq=>?_)
 ·have:¬ l.length=512:=by simp at hq; omega
  rw [writeM,if_neg (by simpa using hd),if_neg hr',dif_neg this]
 have h512:l.length=512:=by simp at hq; omega
 obtain ⟨blk,hblk⟩:∃ blk:Blk,blk.1=l:=⟨⟨l,h512⟩,rfl⟩
 have hw:writeM D n l=((actM (addW D n blk)).1,if (actM (addW D n blk)).2 then 7 else 0):=by
  rw [writeM,if_neg (by simpa using hd),if_neg hr',dif_pos h512]
  have:blk=⟨l,h512⟩:=Subtype.ext hblk
  rw [this]
 rw [hw] at hk
 have hd1:=ho.drew
 refine qab (Own.ld (c:=.slice) hd1 0 rfl wsl rfl ?_)
 obtain ⟨sbk,so,scs,sT,sfr,hsa,hsbk,hsS,hscs⟩:=qs9 hs (by rw [<- List.length_pos_iff]; omega)
 obtain ⟨sa,slen,scap⟩:=s
 simp only at hsa hlen
 subst hsa
 refine qvV (by omega) ?_
 refine qas (n:=512) (w:=w1.drew) hsbk (encK blk) (qaP _) (by rw [<- h512,hscs,encK,hblk]) ?_
 refine qax (ts:=[.raw]) (encW (n,blk)) (qqK n blk _) ?_
 refine qal (qbe _) ?_
 refine Own.new' hd1 fun r w2 er fr2 ho2=>?_
 refine qan (ho2.cell (off:=1) 1 rfl rfl) ?_
 obtain ⟨iW,hi,⟨z,hz,hzs⟩,hsz,hby⟩:=quU
 have hwl:=hD.waits
 have hwr:=hD.writes
 have hfz:=hD.fuse
 have fr2':Fr [] w1 w2:=(Fr.refl [] w1).drew.trans fr2
 have hbuf2:Buf encW 513 w2 wsl D.waits B:=hbuf.frame0 fr2'
 have hsb2:w2.heap[sb]?=some (.cells (D.safe.flatMap encK).toArray T (0,0)):=by rw [fr2'.block sb (qac hsb) (by simp)]; exact hsb
 have hBF:∀ b∈B,b∈F:=fun b hb=>by rw [hF]; simp [hb]
 have hdbB:∀ b∈B,b≠db:=fun b hb e=>by subst e; simp at hn; exact hn.1.2 hb
 have hsbB:∀ b∈B,b≠sb:=fun b hb e=>by subst e; simp at hn; exact hn.2.1 hb
 have hrB:∀ b∈B,b≠r:=fun b hb e=>by have:=hbuf.lt b hb; have e1:w1.drew.heap.size=w1.heap.size:=rfl; omega
 refine Buf.appSrc (ys:=[(n,blk)]) (e:=130) hbuf2 qbe (by kernel_rfl) hi hz hsz hzs (.ofSlice _ (e':=130) (by kernel_rfl) _ 1 1 _ ?_ ?_ ?_) rfl (by rw [hby]; omega) (by omega) fun s' B' w3 g1 g2 g3 _=>?_
 ·simp [qbe]
 ·intro j u hj
  rw [Addr.add_mk,qaj (ho2.at (i:=0) rfl),Nat.zero_add]
  have:(encW (n,blk))[j]?=some u:=by simpa using hj
  simpa using this
 ·intro u hu
  have:u∈encW (n,blk):=by simpa using hu
  exact List.all_eq_true.1 (qhX (n,blk)) u this
 have ho3:Own F w1 w3 [(r,.cells (encW (n,blk)).toArray 130 (0,0)),(db,.cells (dCells D sb wsl) DT (0,0))]:=
  ho2.frame g2 (fun b hb=>.inl (hBF b hb)) (fun p hp=>by simp at hp; rcases hp with rfl | rfl; exact fun hb=>hrB _ hb rfl; exact fun hb=>hdbB _ hb rfl)
 have hsb3:w3.heap[sb]?=some (.cells (D.safe.flatMap encK).toArray T (0,0)):=by rw [g2.block sb (qac hsb2) (fun hb=>hsbB _ hb rfl)]; exact hsb2
 have hc3:=ho3.at (i:=1) rfl
 refine qab ?_
 refine qaX hc3 (dCells { D with waits:=D.waits++[(n,blk)] } sb s') rfl rfl (Nat.le_of_ble_eq_true rfl) fun w4 hc4 f4=>?_
 refine qab (qae (c:=.int .i64) hc4 D.writes rfl ?_)
 refine qab ?_
 rw [wi' (D.writes+1) (by omega)]
 refine qaX hc4 (dCells (addW D n blk) sb s') rfl rfl (Nat.le_of_ble_eq_true rfl) fun w5 hc5 f5=>?_
 have hs2:=fr2'.size
 have hs3:=g2.size
 have hne:sb≠db:=fun e=>by rw [e] at hn; simp at hn
 have f35:Fr [db] w3 w5:=f4.trans f5
 have hB'db:∀ b∈B',b≠db:=fun b hb e=>by
  rcases g3 b hb with h' | h'
  ·exact hdbB b h' e
  ·have:=qac hc; omega
 have hB'sb:∀ b∈B',b≠sb:=fun b hb e=>by
  rcases g3 b hb with h' | h'
  ·exact hsbB b h' e
  ·have:=qac hsb; omega
 have hB'n:B'.Nodup:=by
  rcases g1 with ⟨_,_,rfl⟩ | ⟨b',o',cs',T',rfl,_⟩
  ·simp
  ·simp
 have h5:DiskAt w5 db (db::sb::B') (addW D n blk):=by
  refine ⟨sb,T,s',B',rfl,?_,hc5,?_,?_⟩
  ·simp only [List.nodup_cons,List.mem_cons,not_or]
   exact ⟨⟨fun e=>hne e.symm,fun hb=>hB'db _ hb rfl⟩,fun hb=>hB'sb _ hb rfl,hB'n⟩
  ·rw [f35.block sb (qac hsb3) (by simpa using hne)]
   exact hsb3
  ·exact g1.frame f35 (fun b hb=>by simpa using hB'db b hb)
 have hF':∀ b∈db::sb::B',b∈F\/w1.heap.size<=b:=fun b hb=>by
  simp only [List.mem_cons] at hb
  rcases hb with rfl | rfl | hb
  ·exact .inl hdb
  ·exact .inl (by rw [hF]; simp)
  ·rcases g3 b hb with h' | h'
   ·exact .inl (hBF b h')
   ·exact .inr (by omega)
 have f15:Fr F w1 w5:=((fr2'.mono (fun i hi _=>by cases hi)).trans' g2 (fun b hb=>.inl (hBF b hb))).trans' f35 (fun b hb=>by simp at hb; subst hb; exact .inl hdb)
 refine qs5 h5 (by show D.fuse<=_; omega) fun w6 h6 f6=>?_
 have:=hk (db::sb::B') w6 h6 (f15.trans' f6 (fun b hb=>by simp at hb; subst hb; exact .inl hdb)) hF'
 refine qaa (fun ha=>?_) (fun ha=>?_)
 ·rw [ha] at this; exact this
 ·rw [ha] at this; exact this
def laySafe (s:List Blk) (x:Int×Blk):List Blk:=s.set x.1.toNat x.2
theorem qb2 (l:List (Int×Blk)):∀ s:List Blk,(l.foldl laySafe s).length=s.length:=by
 induction l with
 | nil=>intro s; rfl
 | cons x l ih=>intro s; rw [List.foldl_cons,ih,laySafe,List.length_set]
def syncM (D:DiskM):DiskM×Int:=
 if D.down then (D,7) else if (actM D).2 then ((actM D).1,7) else ({ (actM D).1 with safe:=D.waits.foldl laySafe D.safe,waits:=[] },0)
theorem qel (D:DiskM):(actM D).1.safe=D.safe/\(actM D).1.waits=D.waits:=by
 unfold actM
 split
 ·exact ⟨rfl,rfl⟩
 ·split <;> exact ⟨rfl,rfl⟩
theorem qpc {w:World} {db:Nat} {F:List Nat} {D:DiskM} {K:Int->World->Prop} (h:DiskAt w db F D) (hD:D.Ok)
  (hk:∀ F' w',DiskAt w' db F' (syncM D).1->Fr F w w'->(∀ b∈F',b∈F)->K (syncM D).2 w') :
  call Tryz.prog 87 [.pointer (some ⟨db,0,none⟩)] [.one (.int .i64)] w K:=by
 refine qku (d:=some ⟨db,0,none⟩) ?_
 unfold qgJ
 have hdb:=h.mem
 have hfz:=hD.fuse
 refine qaf (fun b w'=>(D.down=true/\b=true/\w'=w)\/(D.down=false/\b=(actM D).2/\DiskAt w' db F (actM D).1/\Fr [db] w w')) ?_ ?_
 ·obtain ⟨sb,wsl,hc⟩:=h.cell
  refine qab (qae (c:=.bool) hc D.down rfl ?_)
  refine qaa (fun hd=>.inl ⟨hd,rfl,rfl⟩) (fun hd=>?_)
  exact qs5 h (by omega) fun w1 h1 f1=>.inr ⟨hd,rfl,h1,f1⟩
 rintro b w1 (⟨hd,rfl,rfl⟩ | ⟨hd,rfl,h1,f1⟩)
 ·refine cond_true rfl ?_
  have:=hk F w1 (by rw [syncM,if_pos hd]; exact h) (.refl _ _) (fun b hb=>hb)
  rw [syncM,if_pos hd] at this
  exact this
 have fF:Fr F w w1:=f1.mono (fun i hi _=>by simp at hi; subst hi; exact hdb)
 refine qaa (fun ha=>?_) (fun ha=>?_)
 ·have:=hk F w1 (by rw [syncM,if_neg (by simp [hd]),if_pos ha]; exact h1) fF (fun b hb=>hb)
  rw [syncM,if_neg (by simp [hd]),if_pos ha] at this
  exact this
 have hsm:syncM D=({ (actM D).1 with safe:=D.waits.foldl laySafe D.safe,waits:=[] },0):=by rw [syncM,if_neg (by simp [hd]),if_neg (by simp [ha])]
 rw [hsm] at hk
 obtain ⟨hss,hww⟩:=qel D
 generalize (actM D).1=D1 at h1 hss hww hk
 obtain ⟨sb,T,wsl,B,hF,hn,hc,hsb,hbuf⟩:=h1
 rw [hss] at hsb
 rw [hww] at hbuf
 have hne:sb≠db:=fun e=>by rw [e] at hn; simp at hn
 have hB:∀ b∈B,b∉[sb]:=fun b hb he=>by simp at he; subst he; simp at hn; exact hn.2.1 hb
 have hwl:=hbuf.len
 have hwmax:=hD.waits
 have hsmax:=hD.safe
 refine qab (qae (c:=.slice) hc wsl rfl ?_)
 refine qag (fun x w'=>∃ i:Nat,x=i/\i<=D.waits.length/\w'.heap[sb]?=some (.cells (((D.waits.take i).foldl laySafe D.safe).flatMap encK).toArray T (0,0))/\Fr [sb] w1 w') (fun x _=>((D.waits.length:Int)-x).toNat)
  ⟨0,rfl,by omega,hsb,.refl _ _⟩ ?_
 rintro x w2 ⟨i,rfl,hi,hs2,f2⟩ X hX
 have hc2:w2.heap[db]?=some (.cells (dCells D1 sb wsl) DT (0,0)):=by rw [f2.block db (qac hc) (by simpa using fun e=>hne e.symm)]; exact hc
 refine qaa (fun hcnd=>?_) (fun hcnd=>?_)
 ·have hil:i<D.waits.length:=by have:=of_decide_eq_true hcnd; omega
  have hr2:Rds encW 513 [] w2 wsl D.waits:=(hbuf.frame f2 hB).rds qbe (by simp)
  have hget:=List.getElem?_eq_getElem hil
  have hat:=hD.at_ D.waits[i] (List.getElem_mem hil)
  refine hr2.getV qbe i rfl hget ?_
  refine Own.newFill (Own.start [] w2) (by kernel_rfl) (qbe _) (qhX _) fun r w3 er ho=>?_
  have hs3:w3.heap[sb]?=some (.cells (((D.waits.take i).foldl laySafe D.safe).flatMap encK).toArray T (0,0)):=by rw [ho.fr.block sb (qac hs2) (by simp)]; exact hs2
  have hc3:w3.heap[db]?=some (.cells (dCells D1 sb wsl) DT (0,0)):=by rw [ho.fr.block db (qac hc2) (by simp)]; exact hc2
  refine qab (qae (c:=.slice) (w:=w3.drew) hc3 ⟨some ⟨sb,0,none⟩,D1.safe.length,D1.safe.length⟩ rfl ?_)
  have hr3:=ho.at (i:=0) rfl
  refine qae (c:=.int .i64) (w:=w3.drew) hr3 D.waits[i].1 rfl ?_
  refine qas (n:=512) (w:=w3.drew) hr3 (encK D.waits[i].2) (qaP _) (by rw [show (encW D.waits[i]).toArray.toList.drop 1=encK D.waits[i].2 from rfl,List.take_of_length_le (by rw [qaP]; exact Nat.le_refl _)]) ?_
  have hlenF:=qb2 (D.waits.take i) D.safe
  refine qc7 (by omega) (by rw [hss]; omega) ?_
  refine qal (qaP _) ?_
  have hbound:0+Int.toNat D.waits[i].1*512+(encK D.waits[i].2).length<=(((D.waits.take i).foldl laySafe D.safe).flatMap encK).toArray.size:=by
   rw [List.size_toArray,qaS qaP,qaP,hlenF]
   omega
  refine qaX (w:=w3.drew) hs3 (((((D.waits.take i).foldl laySafe D.safe).set D.waits[i].1.toNat D.waits[i].2).flatMap encK).toArray) (by rw [Nat.zero_add]; exact qgR qaP ((D.waits.take i).foldl laySafe D.safe) D.waits[i].1.toNat D.waits[i].2 (by rw [hlenF]; omega)) (qpg _) hbound fun w4 hs4 f4=>?_
  rw [wi' _ (by omega)]
  refine hX _ _ ⟨i+1,by simp,by omega,?_,?_⟩ (by omega)
  ·rw [List.take_succ_eq_append_getElem hil,List.foldl_append]
   exact hs4
  ·have f23:Fr [sb] w2 w3.drew:=ho.fr.drew.mono (fun i hi _=>by cases hi)
   exact f2.trans (f23.trans f4)
 ·have hil:i=D.waits.length:=by have:=of_decide_eq_false hcnd; omega
  subst hil
  rw [List.take_length] at hs2
  refine qab ?_
  have hlenF:=qb2 D.waits D.safe
  refine qaX hc2 (dCells { D1 with safe:=D.waits.foldl laySafe D.safe,waits:=[] } sb ⟨none,0,0⟩) (by simp [splice,dCells,hlenF,hss]) rfl (Nat.le_of_ble_eq_true rfl) fun w3 hc3 f3=>?_
  have f13:Fr F w w3:=(fF.trans (f2.mono (fun i hi _=>by simp at hi; subst hi; rw [hF]; simp))).trans (f3.mono (fun i hi _=>by simp at hi; subst hi; exact hdb))
  refine hk [db,sb] w3 ⟨sb,T,⟨none,0,0⟩,[],rfl,by simpa using fun e=>hne e.symm,hc3,?_,.nil _ _ _⟩ f13 (fun b hb=>by rw [hF]; simp at hb; rcases hb with rfl | rfl <;> simp)
  rw [f3.block sb (qac hs2) (by simpa using hne)]
  exact hs2
def lastW (n:Int):List (Int×Blk)->Option Blk
 | []=>none
 | x::r=>match lastW n r with | some b=>some b | none=>if x.1=n then some x.2 else none
theorem qol {n:Int}:∀ (l:List (Int×Blk)) (i:Nat) (h:i<l.length),lastW n (l.drop (i+1))=none->l[i].1=n->lastW n l=some l[i].2
 | x::l,0,h,hn,he=>by
  simp only [Nat.zero_add,List.drop_succ_cons,List.drop_zero] at hn
  simp only [List.getElem_cons_zero] at he ⊢
  simp [lastW,hn,he]
 | x::l,i+1,h,hn,he=>by
  have:=qol l i (by simpa using h) (by simpa using hn) (by simpa using he)
  simp only [lastW,this,List.getElem_cons_succ]
theorem qr6 {n:Int}:∀ (l:List (Int×Blk)) (i:Nat) (h:i<l.length),lastW n (l.drop (i+1))=none->l[i].1≠n->lastW n (l.drop i)=none:=by
 intro l i h hn hne
 rw [List.drop_eq_getElem_cons h,lastW,hn]
 simp [hne]
def readV (D:DiskM) (n:Int):List Int×Int:=
 if D.down then ([],7) else if n<0\/n>=D.safe.length then ([],4) else
 match lastW n D.waits with | some b=>(b.1,0) | none=>((D.safe.getD n.toNat .zero).1,0)
theorem qo8 {b o n:Nat} {size:Nat} {K:Sl->Prop} (hn:0<n) (k:K ⟨some ⟨b,o,none⟩,n,n⟩):slcP ⟨b,o,none⟩ n none none none size K:=by
 unfold slcP
 refine ⟨by simp,?_⟩
 simp only [Option.getD_none,Int.toNat_natCast,Int.toNat_zero,Nat.sub_zero,Nat.zero_mul]
 rw [if_neg (by omega),qjL]
 exact k
theorem qp8 {S:List Nat} {w:World} {b o:Nat} {cs:Array Value} {T:TypeId} {fr:Nat×Nat} {x:Blk} (hb:w.heap[b]?=some (.cells cs T fr)) (hc:(cs.toList.drop o).take 512=encK x) (hS:b∉S):RdB S w ⟨some ⟨b,o,none⟩,512,512⟩ x.1:=by
 refine ⟨x.2.symm,Nat.le_refl _,.inr ⟨b,o,cs,T,fr,rfl,hb,hS,fun i v hv=>?_⟩⟩
 have hi:=(List.getElem?_eq_some_iff.1 hv).1
 rw [x.2] at hi
 rw [Nat.mul_one]
 have h1:(encK x)[i]?=some (.int .u8 v):=by rw [encK,List.getElem?_map,hv]; rfl
 rw [<- hc,List.getElem?_take,if_pos hi,List.getElem?_drop] at h1
 apply List.ext_getElem?
 intro j
 rw [List.getElem?_take,List.getElem?_drop]
 match j with
 | 0=>simpa using h1
 | j+1=>simp
theorem qqP {w:World} {s:Sl} {K:Value->World->Prop} (hk:∀ rb w',(∀ S w0 L,Own S w0 w L->Own S w0 w' ((rb,.cells #[.slice s.a s.len s.cap] 110 (0,0))::L))->K (.func (.func 98) #[] #[.pointer (some ⟨rb,0,none⟩)]) w') :
  call Tryz.prog 55 [.slice s.a s.len s.cap] [.one .any] w K:=by
 refine qjA (s:=s) ?_
 unfold qfG
 exact Pt.qhc (hk _ _ fun S w0 L h=>h.alloc _)
theorem qqs {Z:List Value} (l:List Blk) (i:Nat) (x:Blk) (h:l[i]?=some x):((l.flatMap encK++Z).drop (i*512)).take 512=encK x:=by
 have hi:=(List.getElem?_eq_some_iff.1 h).1
 have hl:(l.flatMap encK).length=l.length*512:=qaS qaP l
 rw [List.drop_append_of_le_length (by rw [hl]; omega),List.take_append_of_le_length (by rw [List.length_drop,hl]; omega)]
 exact qh2 qaP l i x h
theorem qtm {w:World} {db c:Nat} {F:List Nat} {D:DiskM} {Z:List Value} {n:Int} {K:Sl×Int->World->Prop} (h:DiskZ w db F D c Z) (hD:D.Ok)
  (hk:∀ s' B w',BufB w' s' (readV D n).1 B->Fr [] w w'->(∀ b∈B,w.heap.size<=b)->K (s',(readV D n).2) w') :
  call Tryz.prog 19 [.pointer (some ⟨db,0,none⟩),.int .i64 n] [.one .slice,.one (.int .i64)] w K:=by
 refine qkN (d:=some ⟨db,0,none⟩) ?_
 unfold qgz
 refine Own.new' (Own.start [] w) fun r1 w1 e1 f1 ho=>?_
 refine Own.new' ho fun r3 w2 e2 f2 ho=>?_
 refine Own.new' ho fun r5 w3 e3 f3 ho=>?_
 obtain ⟨sb,T,wsl,B,hF,hn,hc,hsb,hbuf⟩:=h
 have hcW:∀ {w':World},Fr [] w w'->w'.heap[db]?=some (.cells (dCellsC D sb c wsl) DT (0,0)):=fun f=>by rw [f.block db (qac hc) (by simp)]; exact hc
 have hsbW:∀ {w':World},Fr [] w w'->w'.heap[sb]?=some (.cells (D.safe.flatMap encK++Z).toArray T (0,0)):=fun f=>by rw [f.block sb (qac hsb) (by simp)]; exact hsb
 have bad:∀ {e:Int} {w':World} {L'},readV D n=([],e)->Own [] w w' L'->L'[1]?=some (r3,.cells #[.slice none 0 0] 22 (0,0))->L'[0]?=some (r5,.cells #[.int .i64 e] 30 (0,0))->ld Cell.slice ⟨r3,0,none⟩ w' fun s=>ld (.int .i64) ⟨r5,0,none⟩ w' fun x=>K (s,x) w':=by
  intro e w' L' he ho h1 h0
  refine Own.ld (c:=.slice) ho 1 h1 ⟨none,0,0⟩ rfl ?_
  refine Own.ld (c:=.int .i64) ho 0 h0 e rfl ?_
  have:=hk ⟨none,0,0⟩ [] w' (by rw [he]; exact .nil _ _ _) ho.fr (by simp)
  rw [he] at this
  exact this
 refine qab (qae (c:=.bool) (hcW ho.fr) D.down rfl ?_)
 refine qaa (fun hd=>?_) (fun hd=>?_)
 ·refine Own.st ho 1 rfl _ rfl rfl rfl fun w4 ho _=>?_
  refine Own.st ho 0 rfl _ rfl rfl rfl fun w5 ho _=>?_
  exact bad (by rw [readV,if_pos hd]) ho rfl rfl
 refine qaf (fun b w'=>b=decide (n<0\/n>=D.safe.length)/\w'=w3.drew) ?_ ?_
 ·refine Own.ld (c:=.int .i64) ho.drew 2 rfl n rfl ?_
  refine qaa (fun hc=>?_) (fun hc'=>?_)
  ·exact ⟨by rw [decide_eq_true (Or.inl (of_decide_eq_true hc))],rfl⟩
  ·refine Own.ld (c:=.int .i64) ho.drew 2 rfl n rfl ?_
   refine qab (qae (c:=.slice) (hcW ho.drew.fr) ⟨some ⟨sb,0,none⟩,D.safe.length,c⟩ rfl ⟨?_,rfl⟩)
   have:=of_decide_eq_false hc'
   by_cases h2:n>=D.safe.length <;> simp [this,h2]
 rintro b w4 ⟨rfl,rfl⟩
 refine qaa (fun hr=>?_) (fun hr=>?_)
 ·refine Own.st ho.drew 1 rfl _ rfl rfl rfl fun w4 ho _=>?_
  refine Own.st ho 0 rfl _ rfl rfl rfl fun w5 ho _=>?_
  exact bad (by rw [readV,if_neg (by simpa using hd),if_pos (of_decide_eq_true hr)]) ho rfl rfl
 have hr':=of_decide_eq_false hr
 have hn0:0<=n:=by omega
 have hnl:n<D.safe.length:=by omega
 have hwmax:=hD.waits
 have hsmax:=hD.safe
 have hwl:=hbuf.len
 have hrv:readV D n=match lastW n D.waits with | some b=>(b.1,0) | none=>((D.safe.getD n.toNat .zero).1,0):=by
  rw [readV,if_neg (by simpa using hd),if_neg hr']
 refine qab (qae (c:=.slice) (hcW ho.drew.fr) wsl rfl ?_)
 refine qqP fun rb w5 hrb=>?_
 have ho5:=hrb _ _ _ ho.drew
 refine Own.rng (lb:=[.pointer (some ⟨rb,0,none⟩)]) ho5 rfl (by kernel_rfl) fun Dm l R Bz J E E0 w6 el eD f56 ho6 hy=>?_
 refine qg8 ?_
 unfold qdG
 refine Own.ld (c:=.slice) ho6 2 rfl wsl rfl ?_
 rw [wi' _ (by omega)]
 have fin:∀ {bl:Blk} {s7:Sl} {Bf:List Nat} {w10 wz:World} {L10:List (Nat×Obj)},readV D n=(bl.1,0)->Own [] w w10 L10->BufB w10 s7 bl.1 Bf->(∀ b∈Bf,w.heap.size<=b)->(∀ b∈Bf,b∉L10.map (·.1))->Fr (L10.map (·.1)) w10 wz->K (s7,0) wz:=by
  intro bl s7 Bf w10 wz L10 he h10 hb7 hnew hdis fz
  have:=hk s7 Bf wz (by rw [he]; exact hb7.frame fz hdis) (h10.back (L':=[]) fz) hnew
  rw [he] at this
  exact this
 refine qag (fun x w'=>∃ i:Nat,x=(i:Int)-1/\i<=D.waits.length/\lastW n (D.waits.drop i)=none/\Own [] w w' [(l,R),(Dm,.deferred (some [])),(rb,.cells #[.slice wsl.a wsl.len wsl.cap] 110 (0,0)),(r5,.cells #[.int .i64 0] 30 (0,0)),(r3,.cells #[.slice none 0 0] 22 (0,0)),(r1,.cells #[.int .i64 n] 3 (0,0))]) (fun x _=>(x+1).toNat)
  ⟨D.waits.length,by rw [hwl],Nat.le_refl _,by rw [List.drop_length]; rfl,ho6⟩ ?_
 rintro x w7 ⟨i,rfl,hi,hno,ho7⟩ X hX
 refine qaa (fun hc1=>?_) (fun hc1=>?_)
 ·have hge:=of_decide_eq_true hc1
  obtain ⟨i,rfl⟩:∃ k,i=k+1:=⟨i-1,by omega⟩
  have hil:i<D.waits.length:=by omega
  refine Own.ld (c:=.slice) ho7 2 rfl wsl rfl ?_
  have hr7:Rds encW 513 [] w7 wsl D.waits:=(hbuf.frame0 ho7.fr).rds qbe (by simp)
  refine hr7.getV qbe i (by omega) (List.getElem?_eq_getElem hil) ?_
  refine hy ((((i+1:Nat):Int)-1),encW D.waits[i]) w7 _ (ho7.at (i:=0) rfl) ?_
  dsimp only
  refine Own.newFill ho7 (by kernel_rfl) (qbe _) (qhX _) fun r w8 er ho8=>?_
  refine ⟨ho8.at (i:=1) rfl,?_⟩
  have ho9:=ho8.upd (o':=Bz) 1 rfl
  refine Own.ld (c:=.int .i64) ho9 0 rfl D.waits[i].1 rfl ?_
  refine Own.ld (c:=.int .i64) ho9 6 rfl n rfl ?_
  refine qaa (fun hm=>?_) (fun hm=>?_)
  ·have hm':D.waits[i].1=n:=by simpa using hm
   have hlast:=qol D.waits i hil hno hm'
   have hrv2:readV D n=(D.waits[i].2.1,0):=by rw [hrv,hlast]
   refine qo8 (by decide) ?_
   have hrd:RdB [] (Pt.upd w8 l Bz) ⟨some ⟨r,1,none⟩,512,512⟩ D.waits[i].2.1:=
    qp8 (x:=D.waits[i].2) (ho9.at (i:=0) rfl) (by rw [show (encW D.waits[i]).toArray.toList.drop 1=encK D.waits[i].2 from rfl,List.take_of_length_le (by rw [qaP]; exact Nat.le_refl _)]) (by simp)
   refine qbm (s:=⟨some ⟨r,1,none⟩,512,512⟩) hrd (by rw [D.waits[i].2.2]; decide) fun s7 Bf w10 hb7 f10 n10 _ _=>?_
   have ho10:=ho9.frame0 f10
   have hbk:=ho10.rebase
   have hnew:∀ b∈Bf,w.heap.size<=b:=fun b hb=>by have h1:(Pt.upd w8 l Bz).heap.size<=b:=n10 b hb; have:=ho9.fr.size; omega
   have hdis:∀ b∈Bf,b∉[r,l,Dm,rb,r5,r3,r1]:=fun b hb hm=>by
    have h1:(Pt.upd w8 l Bz).heap.size<=b:=n10 b hb
    have h2:∀ p∈[r,l,Dm,rb,r5,r3,r1],p<(Pt.upd w8 l Bz).heap.size:=fun p hp=>by
     have hlt:=fun (k:Nat) (q:Nat×Obj) (hq:_[k]?=some q)=>qac (ho9.at (i:=k) hq)
     simp only [List.mem_cons,List.not_mem_nil,or_false] at hp
     rcases hp with rfl | rfl | rfl | rfl | rfl | rfl | rfl
     ·exact hlt 0 _ rfl
     ·exact hlt 1 _ rfl
     ·exact hlt 2 _ rfl
     ·exact hlt 3 _ rfl
     ·exact hlt 4 _ rfl
     ·exact hlt 5 _ rfl
     ·exact hlt 6 _ rfl
    have:=h2 b hm
    omega
   refine Own.st hbk 5 rfl _ rfl rfl rfl fun w11 hbk _=>?_
   refine Own.st hbk 4 rfl _ rfl rfl rfl fun w12 hbk _=>?_
   refine ⟨hbk.at (i:=1) rfl,?_⟩
   have hbk:=hbk.upd (o':=J 0) 1 rfl
   refine cond_true rfl ?_
   refine .inr ⟨0,_,rfl,hbk.at (i:=1) rfl,?_⟩
   have hbk:=hbk.upd (o':=E 0) 1 rfl
   refine Own.undefer hbk 2 rfl fun w13 hbk=>?_
   refine Own.ld (c:=.slice) hbk 5 rfl s7 rfl ?_
   refine Own.ld (c:=.int .i64) hbk 4 rfl 0 rfl ?_
   exact fin hrv2 ho10 hb7 hnew hdis hbk.fr
  ·have hm':D.waits[i].1≠n:=by simpa using hm
   refine ⟨ho9.at (i:=1) rfl,?_⟩
   have hoA:=ho9.upd (o':=R) 1 rfl
   refine cond_false rfl ?_
   rw [wi' _ (by omega)]
   refine hX _ _ ⟨i,by omega,by omega,qr6 D.waits i hil hno hm',hoA.sub (List.sublist_cons_self _ _)⟩ (by omega)
 ·have hlt:=of_decide_eq_false hc1
  obtain rfl:i=0:=by omega
  rw [List.drop_zero] at hno
  refine .inl ⟨ho7.at (i:=0) rfl,?_⟩
  have ho8:=(ho7.upd (o':=E0) 0 rfl).drew
  have hrv2:readV D n=((D.safe.getD n.toNat .zero).1,0):=by rw [hrv,hno]
  have hnl':n.toNat<D.safe.length:=by omega
  have hgd:D.safe[n.toNat]?=some (D.safe.getD n.toNat .zero):=by rw [List.getD_eq_getElem?_getD,List.getElem?_eq_getElem hnl']; rfl
  refine qab (qae (c:=.slice) (hcW ho8.fr) ⟨some ⟨sb,0,none⟩,D.safe.length,c⟩ rfl ?_)
  refine Own.ld (c:=.int .i64) ho8 5 rfl n rfl ?_
  refine qc7 hn0 hnl ?_
  refine qo8 (by decide) ?_
  have hrd:RdB [] (Pt.upd w7 l E0).drew ⟨some ⟨sb,0+n.toNat*512,none⟩,512,512⟩ (D.safe.getD n.toNat .zero).1:=
   qp8 (hsbW ho8.fr) (by rw [Nat.zero_add]; exact qqs D.safe n.toNat _ hgd) (by simp)
  refine qbm (s:=⟨some ⟨sb,0+n.toNat*512,none⟩,512,512⟩) hrd (by rw [(D.safe.getD n.toNat .zero).2]; decide) fun s7 Bf w10 hb7 f10 n10 _ _=>?_
  have ho10:=ho8.frame0 f10
  have hbk:=ho10.rebase
  have hnew:∀ b∈Bf,w.heap.size<=b:=fun b hb=>by have h1:(Pt.upd w7 l E0).drew.heap.size<=b:=n10 b hb; have:=ho8.fr.size; omega
  have hdis:∀ b∈Bf,b∉[l,Dm,rb,r5,r3,r1]:=fun b hb hm=>by
   have h1:(Pt.upd w7 l E0).drew.heap.size<=b:=n10 b hb
   have h2:∀ p∈[l,Dm,rb,r5,r3,r1],p<(Pt.upd w7 l E0).drew.heap.size:=fun p hp=>by
    have hlt:=fun (k:Nat) (q:Nat×Obj) (hq:_[k]?=some q)=>qac (ho8.at (i:=k) hq)
    simp only [List.mem_cons,List.not_mem_nil,or_false] at hp
    rcases hp with rfl | rfl | rfl | rfl | rfl | rfl
    ·exact hlt 0 _ rfl
    ·exact hlt 1 _ rfl
    ·exact hlt 2 _ rfl
    ·exact hlt 3 _ rfl
    ·exact hlt 4 _ rfl
    ·exact hlt 5 _ rfl
   have:=h2 b hm
   omega
  refine Own.st hbk 4 rfl _ rfl rfl rfl fun w11 hbk _=>?_
  refine Own.st hbk 3 rfl _ rfl rfl rfl fun w12 hbk _=>?_
  refine Own.undefer hbk 1 rfl fun w13 hbk=>?_
  refine Own.ld (c:=.slice) hbk 4 rfl s7 rfl ?_
  refine Own.ld (c:=.int .i64) hbk 3 rfl 0 rfl ?_
  exact fin hrv2 ho10 hb7 hnew hdis hbk.fr
theorem qfO {w:World} {db:Nat} {F:List Nat} {D:DiskM} {n:Int} {K:Sl×Int->World->Prop} (h:DiskAt w db F D) (hD:D.Ok)
  (hk:∀ s' B w',BufB w' s' (readV D n).1 B->Fr [] w w'->(∀ b∈B,w.heap.size<=b)->K (s',(readV D n).2) w') :
  call Tryz.prog 19 [.pointer (some ⟨db,0,none⟩),.int .i64 n] [.one .slice,.one (.int .i64)] w K:=qtm h.z hD hk
def insAll (l:List Int):List Int:=l.foldl (fun a n=>ins n a) []
theorem qni (n:Int):∀ l:List Int,(ins n l).length<=l.length+1
 | []=>by simp [ins]
 | a::l=>by
  have:=qni n l
  simp only [ins]
  split
  ·simp
  ·split
   ·simp
   ·simp only [List.length_cons]; omega
theorem qqy {l:List Int} {i:Nat} (h:i<l.length):insAll (l.take (i+1))=ins l[i] (insAll (l.take i)):=by
 rw [insAll,List.take_succ_eq_append_getElem h,List.foldl_append]
 rfl
theorem ql0 (l:List Int):(insAll l).length<=l.length:=by
 unfold insAll
 have:∀ (l a:List Int),(l.foldl (fun a n=>ins n a) a).length<=a.length+l.length:=by
  intro l
  induction l with
  | nil=>intro a; simp
  | cons x l ih=>
   intro a
   have h1:=ih (ins x a)
   have h2:=qni x a
   rw [List.foldl_cons,List.length_cons]
   omega
 simpa using this l []
theorem qcB (l:List Int):∀ a:List Int,a.Pairwise (· < ·)->(l.foldl (fun a n=>ins n a) a).Pairwise (· < ·):=by
 induction l with
 | nil=>intro a h; exact h
 | cons x l ih=>intro a h; exact ih _ (qdq h)
theorem qj7 (l:List Int):∀ a:List Int,(a++l).Nodup->(l.foldl (fun a n=>ins n a) a).Perm (a++l):=by
 induction l with
 | nil=>intro a h; rw [List.append_nil]; exact .refl _
 | cons x l ih=>
  intro a h
  have hx:x∉a:=fun hm=>by
   rw [List.nodup_append] at h
   exact h.2.2 x hm x (by simp) rfl
  have hp:=qcS hx
  have hp2:(ins x a++l).Perm (a++x::l):=(hp.append_right l).trans (List.perm_middle.symm)
  exact (ih (ins x a) (hp2.nodup_iff.2 h)).trans hp2
theorem qcQ (l:List Int):(insAll l).Pairwise (· < ·):=qcB l [] .nil
theorem qld {l:List Int} (h:l.Nodup):(insAll l).Perm l:=by
 have:=qj7 l [] (by simpa using h)
 simpa [insAll] using this
theorem qoQ {l:List Int} (h:l.Pairwise (· < ·)):l.Pairwise (·<=·):=h.imp Int.le_of_lt
theorem qcg {l:List Int} (h:l.Pairwise (· < ·)):l.Nodup:=h.imp (fun h=>Int.ne_of_lt h)
theorem qcC {l l':List Int} (h:l'.Perm l) (hs:l'.Pairwise (·<=·)) (hn:l.Nodup):l'=insAll l:=
 qbF (h.trans (qld hn).symm) hs (qoQ (qcQ l))
theorem qgq {l:List Int} (h:l.Pairwise (· < ·)):insAll l=l:=(qcC (.refl _) (qoQ h) (qcg h)).symm
theorem qrl {x y:Int}:∀ {l:List Int},y∈ins x l↔y=x\/y∈l
 | []=>by simp [ins]
 | a::l=>by
  have:=qrl (x:=x) (y:=y) (l:=l)
  simp only [ins]
  split
  ·simp
  ·split
   ·rename_i h; subst h; simp
   ·simp only [List.mem_cons,this]
    constructor
    ·rintro (h | h | h)
     ·exact .inr (.inl h)
     ·exact .inl h
     ·exact .inr (.inr h)
    ·rintro (h | h | h)
     ·exact .inr (.inl h)
     ·exact .inl h
     ·exact .inr (.inr h)
theorem qia {y:Int} {l:List Int}:y∈insAll l↔y∈l:=by
 have:∀ (l a:List Int),y∈l.foldl (fun a n=>ins n a) a↔y∈a\/y∈l:=by
  intro l
  induction l with
  | nil=>intro a; simp
  | cons x l ih=>
   intro a
   rw [List.foldl_cons,ih,qrl,List.mem_cons]
   constructor
   ·rintro ((h | h) | h)
    ·exact .inr (.inl h)
    ·exact .inl h
    ·exact .inr (.inr h)
   ·rintro (h | h | h)
    ·exact .inl (.inr h)
    ·exact .inl (.inl h)
    ·exact .inr h
 rw [insAll,this]; simp
def andThen (r:DiskM×Int) (f:DiskM->DiskM×Int):DiskM×Int:=if r.2=0 then f r.1 else r
def writesM:List (Int×List Int)->DiskM->DiskM×Int
 | [],D=>(D,0)
 | x::r,D=>andThen (writeM D x.1 x.2) (writesM r)
def spreadM (D:DiskM) (numbers pages:List Int):DiskM×Int:=
 if (bodiesV numbers pages).2≠0 then (D,(bodiesV numbers pages).2)
 else andThen (writesM ((pages.zip (bodiesV numbers pages).1).map fun x=>(x.1,sealV x.1 2 x.2)) D) syncM
def superP (s:Sup):Int×List Int:=(Int.tmod s.1 2,sealV (IntKind.wrap .u32 (Int.tmod s.1 2)) 1 (superB s.1 s.2))
def sealM (D:DiskM) (s:Sup):DiskM×Int:=andThen (writeM D (superP s).1 (superP s).2) syncM
def allV (n:Nat):List Int:=(List.range (n-2)).map fun (i:Nat)=>(i:Int)+2
def fmtSup (n:Nat):Sup:=(1,[IntKind.wrap .u32 n,2,IntKind.wrap .u32 ((allV n).length-needP (allV n).length:Int)]++zs 24)
def formatM (D:DiskM):DiskM×Int:=
 andThen (writeM D 0 (zs 512)) fun D=>andThen (writeM D 1 (zs 512)) fun D=>andThen (syncM D) fun D=>
 andThen (spreadM D ((allV D.safe.length).drop (needP (allV D.safe.length).length)) ((allV D.safe.length).take (needP (allV D.safe.length).length))) fun D=>sealM D (fmtSup D.safe.length)
def walkM (D:DiskM) (blocks:Int):Nat->Int->List Int->List Int->Option (List Int×List Int)
 | 0,_,_,_=>none
 | f+1,a,lists,named=>
  if a=0 then some (lists,named) else
  if a<2\/a>=blocks\/a∈lists then none else
  if (readV D a).2≠0 then none else
  if (openV a (readV D a).1).2.2≠0\/(openV a (readV D a).1).1≠2 then none else
  if (parseV (openV a (readV D a).1).2.1).2.2≠0 then none else
  walkM D blocks f (parseV (openV a (readV D a).1).2.1).1 (lists++[a]) (named++(parseV (openV a (readV D a).1).2.1).2.1)
def namedB (blocks:Int) (lists:List Int):Int->List Int->Bool
 | _,[]=>true
 | last,n::r=>!(decide (n<=last)||decide (n>=blocks)||decide (n∈lists))&&namedB blocks lists n r
def loadM (D:DiskM) (s:Sup):Option (List Int×List Int):=
 match walkM D (s.2.getD 0 0) ((s.2.getD 0 0).toNat+1) (s.2.getD 1 0) [] [] with
 | none=>none
 | some x=>if namedB (s.2.getD 0 0) x.1 0 x.2=true/\(x.2.length:Int)=s.2.getD 2 0 then some x else none
def begunM (sup:Sup) (lists named:List Int) (turn:Int) (over:Bool) (free:List Int):PgM:=⟨sup,lists,named,turn,over,free,[],[],sup.2.drop 3⟩
def openM (D:DiskM):Option PgM×Int:=
 if (readV D 0).2≠0 then (none,(readV D 0).2) else
 if (readV D 1).2≠0 then (none,(readV D 1).2) else
 if (newestV (readV D 0).1 (readV D 1).1).2≠0 then (none,(newestV (readV D 0).1 (readV D 1).1).2) else
 if (newestV (readV D 0).1 (readV D 1).1).1.2.getD 0 0≠D.safe.length then (none,2) else
 match loadM D (newestV (readV D 0).1 (readV D 1).1).1 with
 | none=>(none,2)
 | some x=>(some (begunM (newestV (readV D 0).1 (readV D 1).1).1 x.1 x.2 1 false x.2),0)
def planM (M:PgM):Option (List Int×List Int):=
 if needP (M.free.length+(M.deferred++M.lists).length)>M.free.length then none
 else some (M.free.take (needP (M.free.length+(M.deferred++M.lists).length)),insAll ((M.deferred++M.lists)++M.free.drop (needP (M.free.length+(M.deferred++M.lists).length))))
def leafOf (fresh:List (Int×Int×List Int)) (n:Int):Int×List Int:=match look n fresh with | some q=>q.2 | none=>(0,[])
def freshW (fresh:List (Int×Int×List Int)):List (Int×List Int):=(insAll (fresh.map (·.1))).map fun n=>(n,sealV n (leafOf fresh n).1 (leafOf fresh n).2)
def flushM (D:DiskM) (fresh:List (Int×Int×List Int)) (pages named:List Int) (next:Sup):DiskM×Int:=
 andThen (writesM (freshW fresh) D) fun D=>andThen (spreadM D named pages) fun D=>sealM D next
def nextS (M:PgM) (pages named:List Int):Sup:=(IntKind.wrap .u64 (M.sup.1+1),[M.sup.2.getD 0 0,pages.headD 0,IntKind.wrap .u32 named.length]++M.roots)
def overM:PgM:=begunM supZero [] [] 1 true []
def commitM (D:DiskM) (M:PgM):(DiskM×PgM)×Int:=
 if M.over then ((D,M),7) else
 if M.fresh=[]/\M.deferred=[]/\M.roots=M.sup.2.drop 3 then ((D,M),0) else
 match planM M with
 | none=>((D,M),6)
 | some x=>
  if (flushM D M.fresh x.1 x.2 (nextS M x.1 x.2)).2≠0 then (((flushM D M.fresh x.1 x.2 (nextS M x.1 x.2)).1,overM),(flushM D M.fresh x.1 x.2 (nextS M x.1 x.2)).2)
  else (((flushM D M.fresh x.1 x.2 (nextS M x.1 x.2)).1,begunM (nextS M x.1 x.2) x.1 x.2 (M.turn+1) false x.2),0)
def beginTail (pb:Nat) (x y:Option Addr) (mb:Nat) (vs:List Value) (K:Unit->World->Prop) (w:World):Prop:=
 runQ [Ty1.raw] (fun (w':Go.World)=>(Instr.build WKT (#[(0,Value.pointer x),(1,Value.pointer y),(2,Value.map (some mb)),(3,Value.agg (List.toArray vs))])).run Tryz.prog w') w<|
 fun (vs_17:List Value)=>
 nn (some ⟨pb,0,none⟩)<|
 fun (a_18:Addr)=>
 chk (List.length vs_17=27)<|
 st ({ block:=a_18.block,off:=a_18.off+33 }) vs_17 w<|
 fun (w_19:World)=>
 nn (some ⟨pb,0,none⟩)<|
 fun (a_20:Addr)=>
 ld Cell.slice ({ block:=a_20.block,off:=a_20.off+30 }) w_19<|
 fun (s_21:Sl)=>
 loop (Int) (fun (X_22:Int->World->Prop) (x_23:Int) (w_24:World)=>
  cond (decide (x_23<(↑s_21.len:Int)))
   (idx s_21 x_23 1<|
   fun (a_25:Addr)=>
   ld (Cell.int IntKind.u32) a_25 w_24<|
   fun (x_26:Int)=>
   nn (some ⟨pb,0,none⟩)<|
   fun (a_27:Addr)=>
   ld Cell.ptr ({ block:=a_27.block,off:=a_27.off+33 }) w_24<|
   fun (p_28:Option Addr)=>
   call Tryz.prog 44 ([Value.pointer p_28,Value.int IntKind.u32 x_26]) ([Ty1.one Cell.bool]) w_24<|
   fun (b_29:Bool) (w_30:World)=>
   X_22 (IntKind.wrap IntKind.i64 (x_23+1)) w_30)
   (K () w_24)) 0 w_19
theorem qsB {w w3:World} {X:List Nat} {pb fb defb mb:Nat} {db:Option Addr} {sup:Sup} {sl sn:Sl} {turn:Int} {over:Bool} {wk:List Value} {lists named:List Int} {F1 F2:List Nat} {K:Unit->World->Prop}
  (hs:sup.2.length=27) (hw:wk.length=27) (hX:∀ b∈X,b<w.heap.size/\b≠pb) (hlists:Rd (X++[pb]) w sl lists) (hnamed:Rd (X++[pb]) w sn named) (hn:named.length<=100000)
  (ho:Own [pb] w w3 [(pb,.cells (pgRaw db sup sl sn turn over wk) PGT (0,0))]) (h1:PoolAt w3 fb F1 []) (h2:PoolAt w3 defb F2 []) (h3:MapS u32V w3 mb [])
  (n1:∀ b∈F1,w.heap.size<=b) (n2:∀ b∈F2,w.heap.size<=b) (n3:w.heap.size<=mb) (hpb:pb<w.heap.size) (sp1:mb∉F1) (sp2:mb∉F2) (sp3:∀ b∈F1,b∉F2)
  (hk:∀ F' w',PagerAt w' X pb db F' (begunM sup lists named turn over (insAll named))->Fr [pb] w w'->(∀ b∈F',b=pb\/w.heap.size<=b)->K () w') :
  beginTail pb (some ⟨fb,0,none⟩) (some ⟨defb,0,none⟩) mb ((sup.2.drop 3).map (Value.int .u32)) K w3:=by
 have hr24:(sup.2.drop 3).length=24:=by rw [List.length_drop,hs]
 unfold beginTail
 refine qax (ts:=[Ty1.raw]) (workV (some ⟨fb,0,none⟩) (some ⟨defb,0,none⟩) (some mb) (sup.2.drop 3)) (qsf hr24 w3) ?_
 refine qab ?_
 refine qal (qaB hr24) ?_
 have hone:(workV (some ⟨fb,0,none⟩) (some ⟨defb,0,none⟩) (some mb) (sup.2.drop 3)).all Value.oneCell'=true:=by
  rw [List.all_eq_true]
  intro v hv
  simp only [workV,List.mem_append,List.mem_cons,List.mem_map,List.not_mem_nil,or_false] at hv
  rcases hv with (rfl | rfl | rfl) | ⟨x,_,rfl⟩ <;> rfl
 refine Own.st' ho 0 rfl (pgCells db sup sl sn turn over fb defb mb (sup.2.drop 3)) (by rw [<- qbw]; exact qpQ hs (by rw [hw,qaB hr24])) hone (by rw [qby hs,qaB hr24,hw]; exact Nat.le_of_ble_eq_true rfl) fun w4 ho4 f4=>?_
 have hpF1:∀ b∈F1,b≠pb:=fun b hb e=>by have:=n1 b hb; omega
 have hpF2:∀ b∈F2,b≠pb:=fun b hb e=>by have:=n2 b hb; omega
 have hS:∀ b∈pb::mb::(F1++F2),b∈[pb]\/w.heap.size<=b:=fun b hb=>by
  simp only [List.mem_cons,List.mem_append] at hb
  rcases hb with rfl | rfl | hb | hb
  ·exact .inl (by simp)
  ·exact .inr n3
  ·exact .inr (n1 b hb)
  ·exact .inr (n2 b hb)
 have hx:PgX w4 X pb db (begunM sup lists named turn over []) fb defb mb sl sn F1 F2 []:={
  cell:=ho4.at (i:=0) rfl
  free:=h1.frame f4 fun b hb=>by simpa using hpF1 b hb
  deferred:=h2.frame f4 fun b hb=>by simpa using hpF2 b hb
  map:=h3.frame f4 (by simp; omega)
  fresh:=rfl
  rows:=by
   have hf:Fr (X++[pb]) w w4:=ho4.fr.mono fun b hb _=>List.mem_append_right _ hb
   exact ⟨hlists.frame hf (qka hS),hnamed.frame hf (qka hS),fun e he=>by cases he⟩
  xlt:=fun b hb=>Nat.lt_of_lt_of_le (hX b hb).1 ho4.fr.size
  xsep:=quJ (fun b hb=>(hX b hb).1) (fun b hb=>by simpa using (hX b hb).2) hS
  sep:=⟨by omega,fun b hb=>⟨hpF1 b hb,fun e=>sp1 (e▸hb),sp3 b hb⟩,fun b hb=>⟨hpF2 b hb,fun e=>sp2 (e▸hb)⟩⟩
  suplen:=hs
  rootlen:=hr24 }
 refine qab (qae (c:=.slice) hx.cell sn (qul hs) ?_)
 have hnl:=hnamed.1
 refine qag (fun x w'=>∃ (i:Nat) (F1':List Nat),x=i/\i<=named.length/\PgX w' X pb db (begunM sup lists named turn over (insAll (named.take i))) fb defb mb sl sn F1' F2 []/\Fr [pb] w w'/\∀ b∈F1',w.heap.size<=b) (fun x _=>((named.length:Int)-x).toNat)
  ⟨0,F1,rfl,by omega,hx,ho4.fr,n1⟩ ?_
 rintro x w5 ⟨i,F1',rfl,hi,hx5,f5,n5⟩ Z hZ
 refine qaa (fun hc=>?_) (fun hc=>?_)
 ·have hil:i<named.length:=by have:=of_decide_eq_true hc; omega
  refine Rd.at hx5.rows.named i rfl (List.getElem?_eq_getElem hil) ?_
  refine qab (qae (c:=.ptr) hx5.cell (some ⟨fb,0,none⟩) (qd5 hs) ?_)
  have hl5:=ql0 (named.take i)
  rw [List.length_take] at hl5
  refine qme hx5.free (by show (insAll (named.take i)).length<=_; omega) fun F1'' w6 hp6 f6 n6=>?_
  have hx6:=hx5.setFree f6 hp6 n6
  rw [wi' _ (by omega)]
  refine hZ _ _ ⟨i+1,F1'',by simp,by omega,?_,f5.trans' f6 (fun b hb=>.inr (n5 b hb)),fun b hb=>?_⟩ (by omega)
  ·rw [qqy hil]; exact hx6
  ·rcases n6 b hb with h | h
   ·exact n5 b h
   ·exact Nat.le_trans f5.size h
 ·have:i=named.length:=by have:=of_decide_eq_false hc; omega
  subst this
  rw [List.take_length] at hx5
  refine hk _ w5 ⟨fb,defb,mb,sl,sn,F1',F2,[],rfl,hx5⟩ f5 fun b hb=>?_
  simp only [List.mem_cons,List.mem_append] at hb
  rcases hb with rfl | rfl | hb | hb
  ·exact .inl rfl
  ·exact .inr n3
  ·exact .inr (n5 b hb)
  ·exact .inr (n2 b hb)
theorem qgt {w:World} {X:List Nat} {pb:Nat} {db:Option Addr} {sup:Sup} {sl sn:Sl} {turn:Int} {over:Bool} {wk:List Value} {lists named:List Int} {K:Unit->World->Prop}
  (hc:w.heap[pb]?=some (.cells (pgRaw db sup sl sn turn over wk) PGT (0,0))) (hs:sup.2.length=27) (hw:wk.length=27) (ht:0<=turn/\turn<=1000000000) (hX:∀ b∈X,b<w.heap.size/\b≠pb) (hlists:Rd (X++[pb]) w sl lists) (hnamed:Rd (X++[pb]) w sn named) (hn:named.length<=100000)
  (hk:∀ F' w',PagerAt w' X pb db F' (begunM sup lists named (turn+1) over (insAll named))->Fr [pb] w w'->(∀ b∈F',b=pb\/w.heap.size<=b)->K () w') :
  call Tryz.prog 58 [.pointer (some ⟨pb,0,none⟩)] [] w K:=by
 have hpb:=qac hc
 have ho:Own [pb] w w [(pb,.cells (pgRaw db sup sl sn turn over wk) PGT (0,0))]:=⟨by simpa using hc,by simp,.refl _ _,by simp⟩
 refine qhN (p:=some ⟨pb,0,none⟩) ?_
 unfold qeC
 refine qab (Own.ld (c:=.int .i64) ho 0 rfl turn (qeM hs 2 (by decide)) ?_)
 rw [wi' _ (by omega)]
 refine qab (Own.st' ho 0 rfl (pgRaw db sup sl sn (turn+1) over wk) (qup hs) rfl (by rw [qby hs,hw]; exact Nat.le_of_ble_eq_true rfl) fun w1 ho f1=>?_)
 have hrl:((sup.2.drop 3).map (Value.int .u32)).length=24:=by rw [List.length_map,List.length_drop,hs]
 have hcA:∀ {w':World},w'.heap[pb]?=some (.cells (pgRaw db sup sl sn (turn+1) over wk) PGT (0,0))->cellsAt w' ⟨pb,5,none⟩ 0 ((sup.2.drop 3).map (Value.int .u32)):=fun h=>qaJ h _ 5 0 (by rw [hrl]; exact qj0 hs)
 have tail:=fun {w3:World} {fb defb mb:Nat} {F1 F2:List Nat}=>qsB (w:=w) (w3:=w3) (X:=X) (pb:=pb) (fb:=fb) (defb:=defb) (mb:=mb) (F1:=F1) (F2:=F2) hs hw hX hlists hnamed hn (K:=K) (turn:=turn+1) (over:=over) (wk:=wk) (db:=db)
 have hs1:=f1.size
 have ho':=ho.drew
 generalize w1.drew=wd at ho'
 have hld:∀ {K':List Value->Prop},K' ((sup.2.drop 3).map (Value.int .u32))->ldV 24 ⟨pb,5,none⟩ wd K':=fun k=>qas (ho'.at (i:=0) rfl) _ hrl (qj0 hs) k
 have hsd:w.heap.size<=wd.heap.size:=ho'.fr.size
 have fin:∀ {w3:World} {fb defb mb:Nat} {F1 F2:List Nat},Fr [] wd w3->PoolAt w3 fb F1 []->PoolAt w3 defb F2 []->MapS u32V w3 mb []->(∀ b∈F1,wd.heap.size<=b)->(∀ b∈F2,wd.heap.size<=b)->wd.heap.size<=mb->mb∉F1->mb∉F2->(∀ b∈F1,b∉F2)->
   beginTail pb (some ⟨fb,0,none⟩) (some ⟨defb,0,none⟩) mb ((sup.2.drop 3).map (Value.int .u32)) K w3:=fun f p1 p2 p3 n1 n2 n3 s1 s2 s3=>
  tail (ho'.frame0 f) p1 p2 p3 (fun b hb=>Nat.le_trans hsd (n1 b hb)) (fun b hb=>Nat.le_trans hsd (n2 b hb)) (Nat.le_trans hsd n3) hpb s1 s2 s3 hk
 refine ⟨?_,?_,?_⟩
 ·refine qab ?_
  simp only [Addr.add_mk]
  refine hld ?_
  refine qfZ fun fb F1 w2 p1 f2 n1=>?_
  refine qan (hcA ((ho'.frame0 f2).at (i:=0) rfl)) ?_
  refine qfZ fun defb F2 w3 p2 f3 n2=>?_
  refine qan (hcA ((ho'.frame0 (f2.trans f3)).at (i:=0) rfl)) ?_
  refine Own.new' (ho'.frame0 (f2.trans f3)) fun mb w4 e4 f4 ho4=>?_
  refine qan (hcA (ho4.at (i:=1) rfl)) ?_
  refine fin ((f2.trans f3).trans f4) (p1.frame (f3.trans f4) (by simp)) (p2.frame f4 (by simp)) (.empty (ho4.at (i:=0) rfl)) n1 (fun b hb=>Nat.le_trans f2.size (n2 b hb)) (by rw [e4]; exact (f2.trans f3).size) (fun hm=>?_) (fun hm=>?_) (fun b hb hb2=>?_)
  ·have:=(p1.frame f3 (by simp)).lt mb hm; omega
  ·have:=p2.lt mb hm; omega
  ·have:=p1.lt b hb; have:=n2 b hb2; omega
 ·refine qab ?_
  simp only [Addr.add_mk]
  refine hld ?_
  refine qfZ fun fb F1 w2 p1 f2 n1=>?_
  refine qan (hcA ((ho'.frame0 f2).at (i:=0) rfl)) ?_
  refine Own.new' (ho'.frame0 f2) fun mb w3 e3 f3 ho3=>?_
  refine qan (hcA (ho3.at (i:=1) rfl)) ?_
  refine qfZ fun defb F2 w4 p2 f4 n2=>?_
  have ho4:=ho3.frame0 f4
  refine qan (hcA (ho4.at (i:=1) rfl)) ?_
  have hmb:=qac (ho3.at (i:=0) rfl)
  refine fin ((f2.trans f3).trans f4) (p1.frame (f3.trans f4) (by simp)) p2 (.empty (ho4.at (i:=0) rfl)) n1 (fun b hb=>Nat.le_trans (f2.trans f3).size (n2 b hb)) (by rw [e3]; exact f2.size) (fun hm=>?_) (fun hm=>?_) (fun b hb hb2=>?_)
  ·have:=p1.lt mb hm; omega
  ·have:=n2 mb hm; omega
  ·have:=(p1.frame f3 (by simp)).lt b hb; have:=n2 b hb2; omega
 ·refine qab ?_
  simp only [Addr.add_mk]
  refine hld ?_
  refine Own.new' ho' fun mb w2 e2 f2 ho2=>?_
  refine qan (hcA (ho2.at (i:=1) rfl)) ?_
  have hmb:=qac (ho2.at (i:=0) rfl)
  refine qfZ fun fb F1 w3 p1 f3 n1=>?_
  have ho3:=ho2.frame0 f3
  refine qan (hcA (ho3.at (i:=1) rfl)) ?_
  refine qfZ fun defb F2 w4 p2 f4 n2=>?_
  have ho4:=ho3.frame0 f4
  refine qan (hcA (ho4.at (i:=1) rfl)) ?_
  refine fin ((f2.trans f3).trans f4) (p1.frame f4 (by simp)) p2 (.empty (ho4.at (i:=0) rfl)) (fun b hb=>Nat.le_trans f2.size (n1 b hb)) (fun b hb=>Nat.le_trans (f2.trans f3).size (n2 b hb)) (by rw [e2]; exact Nat.le_refl _) (fun hm=>?_) (fun hm=>?_) (fun b hb hb2=>?_)
  ·have:=n1 mb hm; omega
  ·have:=n2 mb hm; have:=f3.size; omega
  ·have:=p1.lt b hb; have:=n2 b hb2; omega
abbrev U32 (n:Int):Prop:=0<=n/\n<4294967296
theorem qgK {n:Int} (h:U32 n) (r:List Int):first4 (be n 4++r)=n:=by
 rw [be4 h.1]
 exact qtX h
theorem qnW:∀ (c:List Int) (i:Nat),(c.flatMap (be · 4)).drop (4*i)=(c.drop i).flatMap (be · 4)
 | [],i=>by simp
 | a::c,0=>by simp
 | a::c,i+1=>by
  rw [List.flatMap_cons,List.drop_succ_cons,<- qnW c i,List.drop_append,qah,List.drop_eq_nil_of_le (by rw [qah]; omega),List.nil_append]
  congr 1
theorem qlU (c:List Int):(c.flatMap (be · 4)).length=4*c.length:=by
 induction c with
 | nil=>rfl
 | cons a c ih=>rw [List.flatMap_cons,List.length_append,qah,ih,List.length_cons]; omega
theorem qk7 {c:List Int} {i:Nat} (h:i<c.length) (hr:∀ x∈c,U32 x):first4 ((c.flatMap (be · 4)).drop (4*i))=c[i]:=by
 rw [qnW,List.drop_eq_getElem_cons h,List.flatMap_cons]
 exact qgK (hr _ (List.getElem_mem h)) _
theorem qeo (next:Int) (c:List Int):(bodyV next c).length=6+4*c.length:=by
 rw [bodyV,List.length_append,List.length_append,qah,qlU]
 rfl
theorem qph (c:List Int):IsB (c.flatMap (be · 4)):=by
 induction c with
 | nil=>exact fun x h=>by cases h
 | cons a c ih=>rw [List.flatMap_cons]; exact (qbE _ _).append ih
theorem qvj (x:Int):0<=IntKind.wrap .u8 x/\IntKind.wrap .u8 x<256:=by rw [wu8]; omega
theorem qj9 (next:Int) (c:List Int):IsB (bodyV next c):=by
 refine ((qbE _ _).append fun x hx=>?_).append (qph c)
 simp only [List.mem_cons,List.not_mem_nil,or_false] at hx
 rcases hx with rfl | rfl <;> exact qvj _
theorem qqb {next:Int} {c:List Int} (hn:U32 next) (h1:next≠1) (hc:∀ x∈c,U32 x) (hr:risesB 1 c=true) (hl:c.length<=123):parseV (bodyV next c)=(next,c,0):=by
 have hlen:=qeo next c
 have e:bodyV next c=be next 4++([IntKind.wrap .u8 (Int.fdiv c.length (2^8)),IntKind.wrap .u8 c.length]++c.flatMap (be · 4)):=by rw [bodyV,List.append_assoc]
 have hf:first4 (bodyV next c)=next:=by rw [e]; exact qgK hn _
 have hcnt:cntV (bodyV next c)=c.length:=by
  have h4:(bodyV next c).getD 4 0=IntKind.wrap .u8 (Int.fdiv c.length (2^8)):=by rw [e,be4 hn.1]; rfl
  have h5:(bodyV next c).getD 5 0=IntKind.wrap .u8 c.length:=by rw [e,be4 hn.1]; rfl
  have hd:Int.fdiv (c.length:Int) (2^8)=0:=by rw [Int.fdiv_eq_ediv_of_nonneg _ (by decide)]; omega
  rw [cntV,h4,h5,wu8,wu8,hd]
  omega
 have hnums:numsV (bodyV next c) c.length=c:=by
  apply List.ext_getElem
  ·simp [numsV]
  intro i h1 h2
  have:(bodyV next c).drop (6+4*i)=(c.flatMap (be · 4)).drop (4*i):=by
   have h6:(bodyV next c).drop 6=c.flatMap (be · 4):=by rw [e,be4 hn.1]; rfl
   rw [<- h6,List.drop_drop]
  simp only [numsV,List.getElem_map,List.getElem_range,this]
  exact qk7 h2 hc
 rw [parseV,if_neg (by omega),if_neg (by rw [hf,hcnt]; omega),hcnt,Int.toNat_natCast,hnums,if_pos hr,hf]
theorem qdy (x:Int) (h:0<=x/\x<18446744073709551616):IntKind.wrap .u64 x=x:=by
 unfold IntKind.wrap
 have:(IntKind.u64.signed)=false:=rfl
 simp only [this,Bool.false_and,Bool.false_eq_true,if_false]
 exact Int.emod_eq_of_lt h.1 h.2
theorem qn7 {A B:Int} (k:Nat) (hA:0<=A) (hm:A%2^k=0) (hB:0<=B) (hBk:B<2^k) (hs:A+B<18446744073709551616):bits .or .u64 A B=A+B:=by
 obtain ⟨a,rfl⟩:∃ a:Nat,A=a:=⟨A.toNat,by omega⟩
 obtain ⟨b,rfl⟩:∃ b:Nat,B=b:=⟨B.toNat,by omega⟩
 have hm':a%2^k=0:=by
  have:((a:Int)%((2^k:Nat):Int))=0:=by rw [Int.natCast_pow]; exact hm
  omega
 have hb':b<2^k:=by
  have:(b:Int)<((2^k:Nat):Int):=by rw [Int.natCast_pow]; exact hBk
  omega
 obtain ⟨q,rfl⟩:∃ q,a=2^k*q:=⟨a / 2^k,by have:=Nat.div_add_mod a (2^k); omega⟩
 show IntKind.wrap .u64 ((BitVec.ofInt 64 ((2^k*q:Nat):Int)||| BitVec.ofInt 64 (b:Int)).toNat:Nat)=_
 rw [BitVec.toNat_or,BitVec.ofInt_natCast,BitVec.ofInt_natCast,BitVec.toNat_ofNat,BitVec.toNat_ofNat,Nat.mod_eq_of_lt (show 2^k*q<2^64 by omega),Nat.mod_eq_of_lt (show b<2^64 by omega),<- Nat.two_pow_add_eq_or_of_lt hb']
 rw [qdy _ (by omega)]
 omega
abbrev U64 (n:Int):Prop:=0<=n/\n<18446744073709551616
theorem qde {q:Int} {t:List Int}:superB q t=be (IntKind.wrap .u32 (Int.fdiv q (2^32))) 4++(be (IntKind.wrap .u32 q) 4++t.flatMap (be · 4)):=by rw [superB,List.append_assoc]
theorem qiC {q:Int} {t:List Int} (hq:U64 q):parseQ (superB q t)=q:=by
 have hd:Int.fdiv q (2^32)=q / 4294967296:=by rw [Int.fdiv_eq_ediv_of_nonneg _ (by decide)]; rfl
 have h0:first4 (superB q t)=q / 4294967296:=by
  rw [qde,hd,qaL _ (by omega)]
  exact qgK (by constructor <;> omega) _
 have h4:(superB q t).drop 4=be (IntKind.wrap .u32 q) 4++t.flatMap (be · 4):=by
  rw [qde,List.drop_append,qah,List.drop_eq_nil_of_le (by rw [qah]; exact Nat.le_refl _)]; rfl
 have hw:IntKind.wrap .u32 q=q%4294967296:=by
  unfold IntKind.wrap
  have:(IntKind.u32.signed)=false:=rfl
  simp only [this,Bool.false_and,Bool.false_eq_true,if_false]
  rfl
 have h1:first4 ((superB q t).drop 4)=q%4294967296:=by
  rw [h4,hw]
  exact qgK (by constructor <;> omega) _
 rw [parseQ,h0,h1,qdy (q / 4294967296) (by omega),qdy (q%4294967296) (by omega),qdy (q / 4294967296*2^32) (by omega)]
 rw [qn7 32 (by omega) (by omega) (by omega) (by omega) (by omega)]
 omega
theorem qmd (q:Int) (t:List Int):IsB (superB q t):=by
 rw [qde]
 exact (qbE _ _).append ((qbE _ _).append (qph t))
theorem qou {q:Int} {t:List Int} (ht:t.length=27) (hr:∀ x∈t,U32 x):parseT (superB q t)=t:=by
 apply List.ext_getElem
 ·rw [qaM,ht]
 intro i h1 h2
 have h8:(superB q t).drop 8=t.flatMap (be · 4):=by
  rw [qde,<- List.append_assoc,List.drop_append,List.length_append,qah,qah,List.drop_eq_nil_of_le (by rw [List.length_append,qah,qah]; exact Nat.le_refl _)]; rfl
 have:(superB q t).drop (8+4*i)=(t.flatMap (be · 4)).drop (4*i):=by rw [<- h8,List.drop_drop]
 simp only [parseT,List.getElem_map,List.getElem_range,this]
 exact qk7 h2 hr
theorem qqX {q place:Int} {t:List Int} (hq:U64 q) (ht:t.length=27) (hr:∀ x∈t,U32 x) (hp:Int.tmod q 2=place):readSV place (sealV place 1 (superB q t))=((q,t),0):=by
 have hpl:U32 place:=by rw [<- hp,Int.tmod_eq_emod_of_nonneg hq.1]; constructor <;> omega
 have ho:=qla (kind:=1) (body:=superB q t) hpl (by rw [qbS ht]; decide)
 rw [readSV,ho,if_neg (by simp),if_neg (by simp [qbS ht]),if_neg (by rw [qiC hq,hp]; simp),qiC hq,qou ht hr]
def view (D:DiskM) (n:Int):List Int:=match lastW n D.waits with | some b=>b.1 | none=>(D.safe.getD n.toNat .zero).1
def DiskM.size (D:DiskM):Int:=D.safe.length
theorem qid {D:DiskM} {n:Int} (hd:D.down=false) (hn:0<=n/\n<D.size):readV D n=(view D n,0):=by
 have h2:n<(D.safe.length:Int):=hn.2
 rw [readV,if_neg (by rw [hd]; decide),if_neg (by omega),view]
 cases lastW n D.waits <;> rfl
theorem qfY (n:Int):∀ (l:List (Int×Blk)) (x:Int×Blk),lastW n (l++[x])=if x.1=n then some x.2 else lastW n l
 | [],x=>rfl
 | y::l,x=>by
  simp only [List.cons_append,lastW]
  rw [qfY n l x]
  by_cases h:x.1=n
  ·simp [h]
  ·simp [h]
theorem qpM (n:Nat):∀ (l:List (Int×Blk)) (s:List Blk),(∀ x∈l,0<=x.1/\x.1<s.length)->(l.foldl laySafe s).getD n .zero=match lastW n l with | some b=>b | none=>s.getD n .zero
 | [],s,_=>rfl
 | x::l,s,h=>by
  have hx:=h x (by simp)
  rw [List.foldl_cons,qpM n l (laySafe s x) (fun y hy=>by rw [laySafe,List.length_set]; exact h y (List.mem_cons_of_mem _ hy)),lastW]
  cases lastW (n:Int) l with
  | some b=>rfl
  | none=>
   dsimp only
   by_cases he:x.1=n
   ·rw [if_pos he,laySafe,List.getD_eq_getElem?_getD]
    have:x.1.toNat=n:=by omega
    rw [this,List.getElem?_set_self (by omega)]
    rfl
   ·rw [if_neg he,laySafe,List.getD_eq_getElem?_getD,List.getElem?_set_ne (by omega),List.getD_eq_getElem?_getD]
structure Quiet (D:DiskM):Prop where
 down:D.down=false
 fuse:D.fuse=-1
 at_:∀ x∈D.waits,0<=x.1/\x.1<D.safe.length
theorem Quiet.act {D:DiskM} (h:Quiet D):actM D=(D,false):=by rw [actM,if_neg (by rw [h.fuse]; decide),if_neg (by rw [h.fuse]; decide)]
theorem Quiet.write {D:DiskM} (h:Quiet D) {n:Int} {l:List Int} (hn:0<=n/\n<D.size) (hl:l.length=512) :
  ∃ D',writeM D n l=(D',0)/\Quiet D'/\D'.size=D.size/\∀ m,view D' m=if m=n then l else view D m:=by
 have h2:n<(D.safe.length:Int):=hn.2
 have hq:Quiet (addW D n ⟨l,hl⟩):=⟨h.down,h.fuse,fun x hx=>by
  rcases List.mem_append.1 hx with hx | hx
  ·exact h.at_ x hx
  ·simp at hx; subst hx; exact ⟨hn.1,h2⟩⟩
 refine ⟨addW D n ⟨l,hl⟩,?_,hq,rfl,fun m=>?_⟩
 ·rw [writeM,if_neg (by rw [h.down]; decide),if_neg (by omega),dif_pos hl,hq.act]
  rfl
 ·rw [view,addW]
  dsimp only
  rw [qfY]
  by_cases hm:m=n
  ·rw [if_pos hm,if_pos hm.symm]
  ·rw [if_neg hm,if_neg (fun e=>hm e.symm),view]
theorem Quiet.sync {D:DiskM} (h:Quiet D):∃ D',syncM D=(D',0)/\Quiet D'/\D'.size=D.size/\D'.waits=[]/\∀ m,0<=m->view D' m=view D m:=by
 refine ⟨{ D with safe:=D.waits.foldl laySafe D.safe,waits:=[] },?_,⟨h.down,h.fuse,fun x hx=>by cases hx⟩,?_,rfl,fun m hm=>?_⟩
 ·rw [syncM,if_neg (by rw [h.down]; decide),h.act]
  rfl
 ·show ((D.waits.foldl laySafe D.safe).length:Int)=_
  rw [qb2]; rfl
 ·obtain ⟨k,rfl⟩:∃ k:Nat,m=k:=⟨m.toNat,by omega⟩
  show ((D.waits.foldl laySafe D.safe).getD (k:Int).toNat .zero).1=_
  rw [Int.toNat_natCast,qpM k _ _ h.at_,view,Int.toNat_natCast]
  cases lastW (k:Int) D.waits <;> rfl
theorem Quiet.writes:∀ {l:List (Int×List Int)} {D:DiskM},Quiet D->(∀ x∈l,(0<=x.1/\x.1<D.size)/\x.2.length=512)->(l.map (·.1)).Nodup->
  ∃ D',writesM l D=(D',0)/\Quiet D'/\D'.size=D.size/\(∀ x∈l,view D' x.1=x.2)/\∀ m,m∉l.map (·.1)->view D' m=view D m
 | [],D,h,_,_=>⟨D,rfl,h,rfl,(fun x hx=>by cases hx),fun m _=>rfl⟩
 | y::l,D,h,hl,hn=>by
  obtain ⟨hy,hy2⟩:=hl y (by simp)
  obtain ⟨D1,e1,q1,s1,v1⟩:=h.write hy hy2
  rw [List.map_cons,List.nodup_cons] at hn
  obtain ⟨D2,e2,q2,s2,v2,u2⟩:=Quiet.writes (l:=l) q1 (fun x hx=>by rw [s1]; exact hl x (List.mem_cons_of_mem _ hx)) hn.2
  refine ⟨D2,?_,q2,s2.trans s1,fun x hx=>?_,fun m hm=>?_⟩
  ·rw [writesM,e1]; exact e2
  ·rcases List.mem_cons.1 hx with rfl | hx
   ·rw [u2 _ hn.1,v1,if_pos rfl]
   ·exact v2 x hx
  ·rw [List.map_cons,List.mem_cons,not_or] at hm
   rw [u2 m hm.2,v1,if_neg hm.1]
def chunk (numbers:List Int) (i:Nat):List Int:=(numbers.drop (123*i)).take 123
def Listed (D:DiskM) (numbers pages:List Int):Prop:=∀ (i:Nat) p,pages[i]?=some p->view D p=sealV p 2 (bodyV (pages.getD (i+1) 0) (chunk numbers i))
theorem qmE (numbers pages:List Int) (k i:Nat):(bodiesL numbers pages k)[i]?=if i<k then some (bodyV (pages.getD (i+1) 0) (chunk numbers i)) else none:=by
 rw [bodiesL,List.getElem?_map]
 by_cases h:i<k
 ·rw [if_pos h,List.getElem?_range h]; rfl
 ·rw [if_neg h,List.getElem?_eq_none (by simpa using h)]; rfl
theorem qeg (numbers pages:List Int) (k:Nat):(bodiesL numbers pages k).length=k:=by simp [bodiesL]
theorem qgB (numbers:List Int) (i:Nat):(chunk numbers i).length<=123:=by rw [chunk,List.length_take]; omega
structure ListOk (n:Int) (numbers pages:List Int):Prop where
 rises:numbers.Pairwise (· < ·)
 nums:∀ x∈numbers,2<=x/\x<n
 pgs:∀ x∈pages,2<=x/\x<n
 nodup:pages.Nodup
 apart:∀ x∈pages,x∉numbers
 room:numbers.length<=123*pages.length
theorem qfg:∀ (l:List Int) (a:Int),risesB a l=true↔(∀ x∈l,a<x)/\l.Pairwise (· < ·)
 | [],a=>by simp [risesB]
 | x::l,a=>by
  rw [risesB,Bool.and_eq_true,decide_eq_true_iff,qfg l x,List.pairwise_cons]
  constructor
  ·rintro ⟨h1,h2,h3⟩
   refine ⟨fun y hy=>?_,h2,h3⟩
   rcases List.mem_cons.1 hy with rfl | hy
   ·exact h1
   ·exact Int.lt_trans h1 (h2 y hy)
  ·rintro ⟨h1,h2,h3⟩
   exact ⟨h1 x (by simp),h2,h3⟩
theorem ListOk.bodies {n:Int} {numbers pages:List Int} (h:ListOk n numbers pages):bodiesV numbers pages=(bodiesL numbers pages pages.length,0):=by
 have hr:risesB 1 numbers=true:=(qfg _ _).2 ⟨fun x hx=>by have:=h.nums x hx; omega,h.rises⟩
 rw [bodiesV,if_neg (by rw [hr]; have:=h.room; simp; omega),if_neg]
 rintro ⟨p,hp,h2⟩
 have:=h.pgs p hp
 omega
theorem qkY {α β:Type} {x:α×β}:∀ {l:List α} {r:List β},x∈l.zip r->∃ i:Nat,l[i]?=some x.1/\r[i]?=some x.2
 | [],_,h=>by simp at h
 | _::_,[],h=>by simp at h
 | a::l,b::r,h=>by
  rw [List.zip_cons_cons,List.mem_cons] at h
  rcases h with rfl | h
  ·exact ⟨0,rfl,rfl⟩
  ·obtain ⟨i,h1,h2⟩:=qkY h
   exact ⟨i+1,by simpa using h1,by simpa using h2⟩
theorem qrf {α β:Type}:∀ {l:List α} {r:List β},l.length=r.length->(l.zip r).map (·.1)=l
 | [],[],_=>rfl
 | a::l,b::r,h=>by rw [List.zip_cons_cons,List.map_cons,qrf (by simpa using h)]
theorem Quiet.spread {D:DiskM} {numbers pages:List Int} (h:Quiet D) (hk:ListOk D.size numbers pages) :
  ∃ D',spreadM D numbers pages=(D',0)/\Quiet D'/\D'.size=D.size/\D'.waits=[]/\Listed D' numbers pages/\∀ m,0<=m->m∉pages->view D' m=view D m:=by
 have hz:((pages.zip (bodiesL numbers pages pages.length)).map fun x=>(x.1,sealV x.1 2 x.2)).map (·.1)=pages:=by
  rw [List.map_map]
  exact qrf (by rw [qeg])
 obtain ⟨D1,e1,q1,s1,v1,u1⟩:=h.writes (l:=(pages.zip (bodiesL numbers pages pages.length)).map fun x=>(x.1,sealV x.1 2 x.2)) (fun x hx=>by
  obtain ⟨y,hy,rfl⟩:=List.mem_map.1 hx
  obtain ⟨i,h1,h2⟩:=qkY hy
  rw [qmE] at h2
  have hp:=hk.pgs _ (List.mem_of_getElem? h1)
  refine ⟨⟨by show 0<=y.1; omega,hp.2⟩,qct ?_⟩
  by_cases hi:i<pages.length
  ·rw [if_pos hi] at h2
   have h2:=Option.some.inj h2
   rw [<- h2,qeo]
   have:=qgB numbers i
   omega
  ·rw [if_neg hi] at h2; cases h2) (by rw [hz]; exact hk.nodup)
 rw [hz] at u1
 obtain ⟨D2,e2,q2,s2,w2,v2⟩:=q1.sync
 refine ⟨D2,?_,q2,s2.trans s1,w2,fun i p hp=>?_,fun m hm hm2=>by rw [v2 m hm,u1 m hm2]⟩
 ·rw [spreadM,hk.bodies,if_neg (by simp)]
  show andThen _ _=_
  rw [e1]
  exact e2
 ·have hi:=(List.getElem?_eq_some_iff.1 hp).1
  have hmem:(p,sealV p 2 (bodyV (pages.getD (i+1) 0) (chunk numbers i)))∈(pages.zip (bodiesL numbers pages pages.length)).map fun x=>(x.1,sealV x.1 2 x.2):=by
   refine List.mem_map.2 ⟨(p,bodyV (pages.getD (i+1) 0) (chunk numbers i)),?_,rfl⟩
   refine List.mem_of_getElem? (i:=i) ?_
   rw [List.getElem?_zip_eq_some]
   exact ⟨hp,by rw [qmE,if_pos hi]⟩
  have hp2:=hk.pgs _ (List.mem_of_getElem? hp)
  rw [v2 p (by omega)]
  exact v1 _ hmem
theorem qll (numbers:List Int):∀ k,(List.range k).flatMap (chunk numbers)=numbers.take (123*k)
 | 0=>by simp
 | k+1=>by
  rw [List.range_succ,List.flatMap_append,qll numbers k,List.flatMap_singleton,chunk,Nat.mul_succ,<- List.take_append_drop (123*k) (numbers.take (123*k+123))]
  congr 1
  ·rw [List.take_take,Nat.min_eq_left (by omega)]
  ·rw [List.drop_take,Nat.add_sub_cancel_left]
theorem qrz {D:DiskM} {numbers pages:List Int} {n:Int} (hd:D.down=false) (hs:D.size=n) (hn:n<=4096) (hk:ListOk n numbers pages) (hl:Listed D numbers pages) :
  ∀ (k i f:Nat),i+k=pages.length->k<f->walkM D n f (pages.getD i 0) (pages.take i) ((List.range i).flatMap (chunk numbers))=some (pages,numbers)
 | 0,i,f+1,hi,hf=>by
  have:pages.getD i 0=0:=by rw [List.getD_eq_getElem?_getD,List.getElem?_eq_none (by omega)]; rfl
  have hr:=hk.room
  have hi':i=pages.length:=by omega
  subst hi'
  rw [this,walkM,if_pos rfl,qll,List.take_length,List.take_of_length_le hr]
 | k+1,i,f+1,hi,hf=>by
  have hil:i<pages.length:=by omega
  have hp:pages.getD i 0=pages[i]:=by rw [List.getD_eq_getElem?_getD,List.getElem?_eq_getElem hil]; rfl
  have hr:=hk.pgs _ (List.getElem_mem hil)
  have hnot:pages[i]∉pages.take i:=fun hm=>by
   obtain ⟨j,hj,he⟩:=List.getElem_of_mem hm
   rw [List.getElem_take] at he
   rw [List.length_take] at hj
   have:=List.pairwise_iff_getElem.1 hk.nodup j i (by omega) hil (by omega)
   exact this he
  have hv:=hl i _ (List.getElem?_eq_getElem hil)
  have hread:=qid hd (n:=pages[i]) (by rw [hs]; omega)
  rw [hv] at hread
  have hcl:=qgB numbers i
  have hopen:=qla (number:=pages[i]) (kind:=2) (body:=bodyV (pages.getD (i+1) 0) (chunk numbers i)) (by omega) (by rw [qeo]; omega)
  have hcm:∀ x∈chunk numbers i,x∈numbers:=fun x hx=>List.mem_of_mem_drop (List.mem_of_mem_take hx)
  have hnext:U32 (pages.getD (i+1) 0)/\pages.getD (i+1) 0≠1:=by
   rw [List.getD_eq_getElem?_getD]
   cases h:pages[i+1]? with
   | none=>exact ⟨⟨by decide,by decide⟩,by decide⟩
   | some p=>
    have:=hk.pgs p (List.mem_of_getElem? h)
    constructor
    ·constructor <;> (simp; omega)
    ·simp; omega
  have hparse:=qqb hnext.1 hnext.2 (c:=chunk numbers i) (fun x hx=>by have:=hk.nums x (hcm x hx); constructor <;> omega)
   ((qfg _ _).2 ⟨fun x hx=>by have:=hk.nums x (hcm x hx); omega,hk.rises.sublist ((List.take_sublist _ _).trans (List.drop_sublist _ _))⟩) hcl
  rw [hp,walkM,if_neg (by omega),if_neg (by intro h; rcases h with h | h | h; omega; omega; exact hnot h),hread,hopen,if_neg (by simp),if_neg (by simp),hparse,if_neg (by simp)]
  have:=qrz hd hs hn hk hl k (i+1) f (by omega) (by omega)
  rw [List.take_succ_eq_append_getElem hil,List.range_succ,List.flatMap_append,List.flatMap_singleton] at this
  exact this
theorem qfi (n:Int) (lists:List Int):∀ (l:List Int) (a:Int),namedB n lists a l=true↔(∀ x∈l,a<x/\x<n/\x∉lists)/\l.Pairwise (· < ·)
 | [],a=>by simp [namedB]
 | x::l,a=>by
  rw [namedB,Bool.and_eq_true,qfi n lists l x,List.pairwise_cons]
  simp only [Bool.not_eq_true',Bool.or_eq_false_iff,decide_eq_false_iff_not,Int.not_le,Int.not_lt,ge_iff_le]
  constructor
  ·rintro ⟨⟨⟨h1,h2⟩,h3⟩,h4,h5⟩
   refine ⟨fun y hy=>?_,fun y hy=>(h4 y hy).1,h5⟩
   rcases List.mem_cons.1 hy with rfl | hy
   ·exact ⟨h1,h2,h3⟩
   ·have:=h4 y hy; exact ⟨by omega,this.2⟩
  ·rintro ⟨h1,h2,h3⟩
   have:=h1 x (by simp)
   exact ⟨⟨⟨this.1,this.2.1⟩,this.2.2⟩,fun y hy=>⟨h2 y hy,(h1 y (List.mem_cons_of_mem _ hy)).2⟩,h3⟩
theorem qj1:∀ (n:Nat) (l:List Nat),l.Nodup->(∀ x∈l,x<n)->l.length<=n
 | 0,l,_,h=>by cases l with
  | nil=>simp
  | cons a l=>exact absurd (h a (by simp)) (by omega)
 | n+1,l,hn,h=>by
  by_cases hm:n∈l
  ·have h1:=qj1 n (l.erase n) (hn.erase n) (fun x hx=>by
    have h2:=(hn.mem_erase_iff).1 hx
    have:=h x h2.2
    have:=h2.1
    omega)
   have:=List.length_erase_of_mem hm
   have:=List.length_pos_of_mem hm
   omega
  ·have:=qj1 n l hn (fun x hx=>by
    have:=h x hx
    have:x≠n:=fun e=>hm (e▸hx)
    omega)
   omega
theorem qdl {l:List Int} {n:Int} (hn:l.Nodup) (h:∀ x∈l,2<=x/\x<n):(l.length:Int)<=n-2\/l=[]:=by
 by_cases h0:l=[]
 ·exact .inr h0
 ·left
  obtain ⟨a,ha⟩:=List.exists_mem_of_ne_nil l h0
  have h1:=h a ha
  have:=qj1 (n-2).toNat (l.map fun x=>(x-2).toNat) (by
   refine List.pairwise_map.2 (hn.imp_of_mem fun {x y} hx hy hne=>?_)
   have:=h x hx
   have:=h y hy
   omega) (fun x hx=>by
   obtain ⟨y,hy,rfl⟩:=List.mem_map.1 hx
   have:=h y hy
   omega)
  rw [List.length_map] at this
  omega
structure Opens (D:DiskM) (s:Sup) (pages numbers:List Int):Prop where
 down:D.down=false
 size:8<=D.size/\D.size<=4096
 newest:newestV (view D 0) (view D 1)=(s,0)
 blocks:s.2.getD 0 0=D.size
 list:s.2.getD 1 0=pages.headD 0
 free:s.2.getD 2 0=numbers.length
 ok:ListOk D.size numbers pages
 listed:Listed D numbers pages
theorem Opens.load {D:DiskM} {s:Sup} {pages numbers:List Int} (h:Opens D s pages numbers):loadM D s=some (pages,numbers):=by
 have hw:walkM D D.size (D.size.toNat+1) (pages.headD 0) [] []=some (pages,numbers):=by
  have:=qrz h.down rfl h.size.2 h.ok h.listed pages.length 0 (D.size.toNat+1) (by omega) (by
   have:=qdl h.ok.nodup h.ok.pgs
   have h2:=h.size
   rcases this with h1 | h1
   ·omega
   ·rw [h1]; simp)
  have e:pages.headD 0=pages.getD 0 0:=by cases pages <;> rfl
  rw [e]
  exact this
 rw [loadM,h.blocks,h.list,hw]
 dsimp only
 rw [if_pos]
 exact ⟨(qfi _ _ _ _).2 ⟨fun x hx=>⟨by have:=h.ok.nums x hx; omega,(h.ok.nums x hx).2,fun hm=>h.ok.apart x hm hx⟩,h.ok.rises⟩,h.free.symm⟩
theorem Opens.open {D:DiskM} {s:Sup} {pages numbers:List Int} (h:Opens D s pages numbers):openM D=(some (begunM s pages numbers 1 false numbers),0):=by
 have r0:=qid h.down (n:=0) ⟨by decide,by have:=h.size; omega⟩
 have r1:=qid h.down (n:=1) ⟨by decide,by have:=h.size; omega⟩
 have hb:s.2.getD 0 0=(D.safe.length:Int):=h.blocks
 rw [openM,r0,r1,h.newest,if_neg (by simp),if_neg (by simp),if_neg (by simp),if_neg (by rw [hb]; simp),h.load]
theorem qhu {α:Type} {enc:α->List Value} {k:Nat} {P:Program} {S:List Nat} {w:World} {s:Sl} {l:List α} {tx e':TypeId} (h:Rds enc k S w s l) (henc:∀ x,(enc x).length=k) (hone:∀ x,∀ u∈enc x,u.oneCell'=true) (hk:P.underlying tx=some (.slice e')) :
  Src P k tx (.slice s.a s.len s.cap) s.len (l.flatMap enc) w:=by
 obtain ⟨a,len,cap⟩:=s
 have hl:=h.1
 simp only at hl
 cases a with
 | none=>
  have:l=[]:=by
   rcases h.2.2 with h | ⟨b,o,cs,T,fr,ha,_⟩
   ·exact h
   ·cases ha
  subst this
  simp at hl
  subst hl
  exact .ofNil w hk cap
 | some a=>
  refine .ofSlice w hk a len cap _ (by rw [qaS henc,hl]) (h.cells henc rfl) fun u hu=>?_
  obtain ⟨x,_,hx⟩:=List.mem_flatMap.1 hu
  exact hone x u hx
theorem qnq {S:List Nat} {w:World} {s src:Sl} {l ys:List Int} {B:List Nat} {K:Sl->World->Prop} (h:BufU w s l B) (hr:Rd S w src ys) (hl:l.length+ys.length<=1000000)
  (kk:∀ s' B' w',BufU w' s' (l++ys) B'->Fr B w w'->(∀ b∈B',b∈B\/w.heap.size<=b)->K s' w') :
  Pt.run [Ty1.one Cell.slice] ((Builtin.append_ #[27,27] 27 #[.slice s.a s.len s.cap,.slice src.a src.len src.cap]).run Tryz.prog w) K:=by
 obtain ⟨i,hi,hz,hsz,hby⟩:=qjZ
 have hlen:=hr.1
 refine Buf.appSrc (e:=29) h qau (by kernel_rfl) hi hz hsz rfl (qhu (e':=29) hr qau (fun x u hu=>by simp at hu; subst hu; rfl) (by kernel_rfl)) hlen (by rw [hby]; omega) (by omega) fun s' B' w' b' f' n' _=>kk s' B' w' b' f' n'
theorem qaY {D:DiskM} (h:D.Ok) (n:Int):IsB (readV D n).1/\(readV D n).1.length<=512:=by
 have hz:IsB (zs 512):=IsB.zs 512
 unfold readV
 split
 ·exact ⟨(fun x hx=>by cases hx),by simp⟩
 split
 ·exact ⟨(fun x hx=>by cases hx),by simp⟩
 split
 ·rename_i b hb
  refine ⟨?_,Nat.le_of_eq b.2⟩
  have:∀ l:List (Int×Blk),(∀ x∈l,IsB x.2.1)->lastW n l=some b->IsB b.1:=by
   intro l
   induction l with
   | nil=>intro _ h; cases h
   | cons x l ih=>
    intro h1 h2
    rw [lastW] at h2
    cases h3:lastW n l with
    | some c=>rw [h3] at h2; exact ih (fun y hy=>h1 y (List.mem_cons_of_mem _ hy)) (by rw [h3]; exact h2)
    | none=>
     rw [h3] at h2
     dsimp only at h2
     split at h2
     ·cases h2; exact h1 x (by simp)
     ·cases h2
  exact this _ h.bytesW hb
 ·refine ⟨?_,Nat.le_of_eq (D.safe.getD n.toNat .zero).2⟩
  rw [List.getD_eq_getElem?_getD]
  cases he:D.safe[n.toNat]? with
  | none=>exact hz
  | some b=>exact h.bytesS b (List.mem_of_getElem? he)
theorem qgv {l:List Int} (h:IsB l) (n:Int):IsB (openV n l).2.1/\(openV n l).2.1.length<=l.length:=by
 have hz:IsB ([]:List Int):=fun x hx=>by cases hx
 unfold openV
 split
 ·exact ⟨hz,by simp⟩
 split
 ·exact ⟨hz,by simp⟩
 split
 ·exact ⟨hz,by simp⟩
 split
 ·exact ⟨hz,by simp⟩
 split
 ·exact ⟨hz,by simp⟩
 ·refine ⟨(h.take _).drop _,?_⟩
  rw [List.length_drop,List.length_take]
  omega
abbrev MIT:TypeId:=170
theorem qvN:Tryz.prog.underlying MIT=some (.map 29 3):=by kernel_rfl
theorem qwu:∀ w,(zeroValue 3).run Tryz.prog w=.ok (.int .i64 0) w:=fun w=>by kernel_rfl
def onesM (l:List Int):List (Int×Value):=l.map fun n=>(n,.int .i64 1)
theorem qhU (n:Int):∀ l:List Int,(n∈l->∃ i,look n (onesM l)=some (i,.int .i64 1))/\(n∉l->look n (onesM l)=none)
 | []=>⟨(fun h=>by cases h),fun _=>rfl⟩
 | a::l=>by
  obtain ⟨h1,h2⟩:=qhU n l
  simp only [onesM,List.map_cons,look]
  by_cases h:n=a
  ·rw [if_pos h]
   exact ⟨fun _=>⟨0,rfl⟩,fun hn=>absurd (by rw [h]; simp) hn⟩
  ·rw [if_neg h]
   refine ⟨fun hm=>?_,fun hm=>?_⟩
   ·rcases List.mem_cons.1 hm with e | hm
    ·exact absurd e h
    ·obtain ⟨i,hi⟩:=h1 hm
     unfold onesM at hi
     exact ⟨i+1,by rw [hi]; rfl⟩
   ·have:=h2 (fun hm'=>hm (List.mem_cons_of_mem _ hm'))
    unfold onesM at this
    rw [this]; rfl
theorem qpZ {w:World} {r:Nat} {lists:List Int} {n:Int} {K:Int->Prop} (h:MapS u32V w r (onesM lists)) (k:∀ x:Int,decide (x>0)=decide (n∈lists)->K x) :
  runQ [Ty1.one (Cell.int .i64)] (fun w'=>(Instr.lookup MIT (.map (some r)) (.int .u32 n) false).run Tryz.prog w') w K:=by
 have:=qfs (P:=Tryz.prog) qvN qwu qcA h.at n
 rw [qbT] at this
 obtain ⟨h1,h2⟩:=qhU n lists
 by_cases hn:n∈lists
 ·obtain ⟨i,hi⟩:=h1 hn
  rw [hi] at this
  exact qax (ts:=[Ty1.one (Cell.int .i64)]) (1:Int) this (k 1 (by simp [hn]))
 ·rw [h2 hn] at this
  exact qax (ts:=[Ty1.one (Cell.int .i64)]) (0:Int) this (k 0 (by simp [hn]))
theorem qnY {db:Option Addr} {sup:Sup} {sl sl' sn:Sl} {turn:Int} {over:Bool} {wk:List Value} (hl:sup.2.length=27):splice (pgRaw db sup sl sn turn over wk) 29 [.slice sl'.a sl'.len sl'.cap]=pgRaw db sup sl' sn turn over wk:=by
 have h:=qa5 (db:=db) hl
 have:=qaq (A:=(Value.pointer db::supV sup.1 sup.2)) (X:=[.slice sl.a sl.len sl.cap]) (Y:=[.slice sl'.a sl'.len sl'.cap]) (Z:=.slice sn.a sn.len sn.cap::.int .i64 turn::.bool over::wk) rfl
 rw [h] at this
 simpa [pgRaw] using this
theorem qnH {db:Option Addr} {sup:Sup} {sl sn sn':Sl} {turn:Int} {over:Bool} {wk:List Value} (hl:sup.2.length=27):splice (pgRaw db sup sl sn turn over wk) 30 [.slice sn'.a sn'.len sn'.cap]=pgRaw db sup sl sn' turn over wk:=by
 have h:((Value.pointer db::supV sup.1 sup.2)++([.slice sl.a sl.len sl.cap]:List Value)).length=30:=by rw [List.length_append,qa5 hl]; rfl
 have:=qaq (A:=(Value.pointer db::supV sup.1 sup.2)++([.slice sl.a sl.len sl.cap]:List Value)) (X:=[.slice sn.a sn.len sn.cap]) (Y:=[.slice sn'.a sn'.len sn'.cap]) (Z:=.int .i64 turn::.bool over::wk) rfl
 rw [h] at this
 simpa [pgRaw] using this
theorem qfR {l:List Int}:U32 (first4 l):=by unfold first4 get4V; exact qdW _ _ _
theorem qm4 (l:List Int):U32 (parseV l).1:=by
 unfold parseV
 split
 ·constructor <;> decide
 split
 ·constructor <;> decide
 split
 ·exact qfR
 ·constructor <;> decide
theorem qmU (l:List Int):(parseV l).2.1.length<=123:=by
 unfold parseV
 split
 ·simp
 split
 ·simp
 rename_i h
 split
 ·simp only [numsV,List.length_map,List.length_range]; omega
 ·simp
structure Walk (w:World) (FD:List Nat) (pb r:Nat) (db:Option Addr) (sup:Sup) (turn:Int) (over:Bool) (wk:List Value) (a:Int) (lists named:List Int) (w':World) (sl sn:Sl) (B1 B2:List Nat):Prop where
 own:Own [pb] w w' [(pb,.cells (pgRaw db sup sl sn turn over wk) PGT (0,0))]
 b1:BufU w' sl lists B1
 b2:BufU w' sn named B2
 map:MapS u32V w' r (onesM lists)
 n1:∀ b∈B1,w.heap.size<=b/\b≠r/\b∉B2
 n2:∀ b∈B2,w.heap.size<=b/\b≠r
 nr:w.heap.size<=r
 at_:U32 a
 nodup:lists.Nodup
 range:∀ x∈lists,2<=x/\x<sup.2.getD 0 0
 len:named.length<=123*lists.length
theorem quM {w:World} {pb dbk:Nat} {FD:List Nat} {D:DiskM} {sup:Sup} {turn:Int} {over:Bool} {wk:List Value} {K:Bool->World->Prop}
  (hc:w.heap[pb]?=some (.cells (pgRaw (some ⟨dbk,0,none⟩) sup ⟨none,0,0⟩ ⟨none,0,0⟩ turn over wk) PGT (0,0))) (hs:sup.2.length=27) (hw:wk.length=27) (hd:DiskAt w dbk FD D) (hD:D.Ok) (hv:Hv w) (hpb:pb∉FD) (hpv:pb≠HG)
  (hb4:sup.2.getD 0 0<=4096) (hat:U32 (sup.2.getD 1 0)) (hfr:U32 (sup.2.getD 2 0))
  (hno:loadM D sup=none->∀ w',Fr [pb] w w'->K false w')
  (hk:∀ sl sn lists named w',loadM D sup=some (lists,named)->Own [pb] w w' [(pb,.cells (pgRaw (some ⟨dbk,0,none⟩) sup sl sn turn over wk) PGT (0,0))]->(∀ G:List Nat,(∀ b∈G,b<w.heap.size)->Rd G w' sl lists/\Rd G w' sn named)->K true w') :
  call Tryz.prog 64 [.pointer (some ⟨pb,0,none⟩)] [.one .bool] w K:=by
 have hpb':=qac hc
 have ho:Own [pb] w w [(pb,.cells (pgRaw (some ⟨dbk,0,none⟩) sup ⟨none,0,0⟩ ⟨none,0,0⟩ turn over wk) PGT (0,0))]:=⟨by simpa using hc,by simp,.refl _ _,by simp⟩
 refine qjg (p:=some ⟨pb,0,none⟩) ?_
 unfold qe7
 refine Own.new' ho fun r w1 e1 f1 ho1=>?_
 have hmap1:MapS u32V w1 r (onesM []):=.empty (ho1.at (i:=0) rfl)
 have ho1:=ho1.sub (L':=[(pb,_)]) (List.Sublist.cons _ (List.Sublist.refl _))
 refine qab (Own.ld (c:=.int .u32) ho1 0 rfl (sup.2.getD 1 0) (qkl hs 1 (by decide)) ?_)
 have disk:∀ {w':World},Fr [pb] w w'->DiskAt w' dbk FD D:=fun f=>hd.frame f fun b hb=>by simp only [List.mem_singleton]; rintro rfl; exact hpb hb
 have half:∀ {w':World},Fr [pb] w w'->Hv w':=fun f=>hv.frame f (by simpa using fun e=>hpv e.symm)
 generalize hF0:(sup.2.getD 0 0).toNat+1=F0
 have hload:loadM D sup=match walkM D (sup.2.getD 0 0) F0 (sup.2.getD 1 0) [] [] with | none=>none | some x=>if namedB (sup.2.getD 0 0) x.1 0 x.2=true/\(x.2.length:Int)=sup.2.getD 2 0 then some x else none:=by rw [<- hF0]; rfl
 refine qag (fun a w'=>∃ lists named sl sn B1 B2 f,Walk w FD pb r (some ⟨dbk,0,none⟩) sup turn over wk a lists named w' sl sn B1 B2/\f+lists.length=F0/\walkM D (sup.2.getD 0 0) f a lists named=walkM D (sup.2.getD 0 0) F0 (sup.2.getD 1 0) [] [])
  (fun a w'=>match w'.heap[r]? with | some (.map es _)=>F0-es.size | _=>0) ⟨[],[],⟨none,0,0⟩,⟨none,0,0⟩,[],[],F0,⟨ho1,.nil _ _ _,.nil _ _ _,hmap1,by simp,by simp,by rw [e1]; exact Nat.le_refl _,hat,.nil,by simp,by simp⟩,rfl,rfl⟩ ?_
 rintro a w2 ⟨lists,named,sl,sn,B1,B2,f,H,hf,hwalk⟩ X hX
 have hpos:lists.length<F0:=by
  rcases qdl H.nodup H.range with h | h
  ·omega
  ·rw [h]; simp; omega
 obtain ⟨f,rfl⟩:∃ g,f=g+1:=⟨f-1,by omega⟩
 have fr2:=H.own.fr
 refine qaa (fun hc1=>?_) (fun hc1=>?_)
 ·have ha0:a≠0:=by simpa using hc1
  rw [walkM,if_neg ha0] at hwalk
  refine qaf (fun b w'=>b=decide (a<2\/a>=sup.2.getD 0 0\/a∈lists)/\w'=w2) ?_ ?_
  ·refine qaa (fun h=>⟨by rw [decide_eq_true (Or.inl (of_decide_eq_true h))],rfl⟩) (fun h=>?_)
   have h1:=of_decide_eq_false h
   refine qab (Own.ld (c:=.int .u32) H.own 0 rfl (sup.2.getD 0 0) (qkl hs 0 (by decide)) ?_)
   refine qaa (fun h=>⟨by rw [decide_eq_true (Or.inr (Or.inl (of_decide_eq_true h)))],rfl⟩) (fun h=>?_)
   have h2:=of_decide_eq_false h
   refine qpZ H.map fun x hx=>⟨?_,rfl⟩
   rw [hx]
   refine decide_eq_decide.2 ⟨fun h=>.inr (.inr h),fun h=>?_⟩
   rcases h with h | h | h
   ·exact absurd h h1
   ·exact absurd h h2
   ·exact h
  rintro b w3 ⟨rfl,rfl⟩
  refine qaa (fun h=>?_) (fun h=>?_)
  ·have h:=of_decide_eq_true h
   rw [if_pos h] at hwalk
   exact hno (by rw [hload,<- hwalk]) w3 fr2
  have hbad:=of_decide_eq_false h
  rw [if_neg hbad] at hwalk
  have ha2:2<=a:=by omega
  have hab:a<sup.2.getD 0 0:=by omega
  have hal:a∉lists:=fun h=>hbad (.inr (.inr h))
  obtain ⟨o,hr,hm⟩:=qhL (v:=.int .i64 1) qvN H.map a
  refine qkj _ hr ?_
  have hsetL:setL a (.int .i64 1) (onesM lists)=onesM (lists++[a]):=by
   rw [setL,(qhU a lists).2 hal]
   simp [onesM]
  rw [hsetL] at hm
  have hrlt:=H.map.lt
  have fm:Fr [r] w3 (upd w3 r o):=qf3 hrlt o
  have hrpb:r≠pb:=by have:=H.nr; omega
  have ho4:=H.own.frame fm (fun b hb=>by simp only [List.mem_singleton] at hb; subst hb; exact .inr H.nr) (fun p hp=>by simp at hp; subst hp; simpa using fun e=>hrpb e.symm)
  have b14:=H.b1.frame fm (fun b hb=>by simpa using (H.n1 b hb).2.1)
  have b24:=H.b2.frame fm (fun b hb=>by simpa using (H.n2 b hb).2)
  generalize upd w3 r o=w4 at hm fm ho4 b14 b24
  refine qab (Own.ld (c:=.ptr) ho4 0 rfl (some ⟨dbk,0,none⟩) qwf ?_)
  rw [wi' a (by omega)]
  refine qfO (disk ho4.fr) hD fun s5 B5 w5 b5 f5 n5=>?_
  have ho5:=ho4.frame0 f5
  refine qaa (fun h=>?_) (fun h=>?_)
  ·have h:(readV D a).2≠0:=by simpa using h
   rw [if_pos h] at hwalk
   exact hno (by rw [hload,<- hwalk]) w5 ho5.fr
  have h:¬ (readV D a).2≠0:=by simpa using h
  rw [if_neg h] at hwalk
  refine qnE (b5.rds qat (S:=[]) (by simp)) (half ho5.fr) (qaY hD a).1 (by have:=(qaY hD a).2; omega) fun s6 B6 w6 b6 f6 n6=>?_
  have ho6:=ho5.frame0 f6
  refine qaf (fun b w'=>b=decide ((openV a (readV D a).1).2.2≠0\/(openV a (readV D a).1).1≠2)/\w'=w6) ?_ ?_
  ·refine qaa (fun h=>?_) (fun h=>?_)
   ·have h:(openV a (readV D a).1).2.2≠0:=by simpa using h
    exact ⟨by rw [decide_eq_true (Or.inl h)],rfl⟩
   ·have h:(openV a (readV D a).1).2.2=0:=by simpa using h
    refine ⟨?_,rfl⟩
    by_cases h2:(openV a (readV D a).1).1=2 <;> simp [h,h2]
  rintro b w6' ⟨rfl,rfl⟩
  refine qaa (fun h=>?_) (fun h=>?_)
  ·have h:=of_decide_eq_true h
   rw [if_pos h] at hwalk
   exact hno (by rw [hload,<- hwalk]) w6' ho6.fr
  have h:=of_decide_eq_false h
  rw [if_neg h] at hwalk
  have hoB:=qgv (qaY hD a).1 a
  refine qsO (b6.rds qat (S:=[]) (by simp)) hoB.1 (by have:=hoB.2; have:=(qaY hD a).2; omega) fun s7 B7 w7 b7 f7 n7=>?_
  have ho7:=ho6.frame0 f7
  refine qaa (fun h=>?_) (fun h=>?_)
  ·have h:(parseV (openV a (readV D a).1).2.1).2.2≠0:=by simpa using h
   rw [if_pos h] at hwalk
   exact hno (by rw [hload,<- hwalk]) w7 ho7.fr
  have h:¬ (parseV (openV a (readV D a).1).2.1).2.2≠0:=by simpa using h
  rw [if_neg h] at hwalk
  have hpl:=qmU (openV a (readV D a).1).2.1
  have hpu:=qm4 (openV a (readV D a).1).2.1
  generalize parseV (openV a (readV D a).1).2.1=pv at hwalk b7 hpl hpu
  have f47:=(f5.trans f6).trans f7
  have hml:=H.len
  have hl4:lists.length<=4096:=by omega
  have hoD:=ho7.drew
  have hd7:Fr [] w4 w7.drew:=f47.drew
  have b1d:=b14.frame0 hd7
  have b2d:=b24.frame0 hd7
  have hmd:=hm.frame hd7 (by simp)
  have b7d:=b7.frame0 ((Fr.refl [] w7).drew)
  have l7:∀ b∈B7,w4.heap.size<=b:=fun b hb=>Nat.le_trans (f5.trans f6).size (n7 b hb)
  have hr4:r<w4.heap.size:=hm.lt
  generalize w7.drew=wd at hoD hd7 b1d b2d hmd b7d
  refine qab (Own.ld (c:=.slice) hoD 0 rfl sl (qeM hs 0 (by decide)) ?_)
  refine qab (Own.ld (c:=.slice) hoD 0 rfl sn (qeM hs 1 (by decide)) ?_)
  refine Own.new' hoD fun rn w8 e8 f8 ho8=>?_
  refine qaQ (ho8.cell 1 rfl (qeM hs 1 (by decide))) (ho8.cell 1 rfl (qeM hs 0 (by decide))) ?_
  have hone:Rd [] w8 ⟨some ⟨rn,0,none⟩,1,1⟩ [a]:=by
   refine ⟨rfl,Nat.le_refl _,.inr ⟨rn,0,_,_,_,rfl,ho8.at (i:=0) rfl,by simp,fun i x hx=>?_⟩⟩
   match i with
   | 0=>simp at hx; subst hx; rfl
   | i+1=>simp at hx
  refine qnq (s:=sl) (src:=⟨some ⟨rn,0,none⟩,1,1⟩) (b1d.frame0 f8) hone (by simp; omega) fun s9 B9 w9 b9 f9 n9=>?_
  have hB1:∀ b∈B1,b<wd.heap.size:=fun b hb=>b1d.lt b hb
  have hB2:∀ b∈B2,b<wd.heap.size:=fun b hb=>b2d.lt b hb
  have h78:wd.heap.size<=w8.heap.size:=f8.size
  have h4d:w4.heap.size<=wd.heap.size:=hd7.size
  have hw0:w.heap.size<=w4.heap.size:=ho4.fr.size
  have ho9:=(ho8.sub (L':=[(pb,_)]) (List.Sublist.cons _ (List.Sublist.refl _))).frame f9 (fun b hb=>.inr (H.n1 b hb).1) (fun p hp hb=>by simp at hp; subst hp; have:=(H.n1 _ hb).1; dsimp only at this; omega)
  refine qan (ho9.cell 0 rfl (qeM hs 1 (by decide))) ?_
  have b29:=(b2d.frame0 f8).frame f9 (fun b hb hb1=>(H.n1 b hb1).2.2 hb)
  have r79:Rd [] w9 s7 pv.2.1:=((b7d.frame0 f8).frame f9 (fun b hb hb1=>by have:=l7 b hb; have:=b14.lt b hb1; omega)).rds qau (by simp)
  refine qnq b29 r79 (by omega) fun s10 B10 w10 b10 f10 n10=>?_
  have hlt9:wd.heap.size<=w9.heap.size:=Nat.le_trans h78 f9.size
  have ho10:=ho9.frame f10 (fun b hb=>.inr (H.n2 b hb).1) (fun p hp hb=>by simp at hp; subst hp; have:=(H.n2 _ hb).1; dsimp only at this; omega)
  have nB9:∀ b∈B9,w.heap.size<=b/\b≠r/\b∉B2/\b<w9.heap.size:=fun b hb=>by
   refine ⟨?_,?_,?_,b9.lt b hb⟩
   ·rcases n9 b hb with h | h
    ·exact (H.n1 b h).1
    ·omega
   ·rcases n9 b hb with h | h
    ·exact (H.n1 b h).2.1
    ·omega
   ·rcases n9 b hb with h | h
    ·exact (H.n1 b h).2.2
    ·intro h2; have:=hB2 b h2; omega
  have nB10:∀ b∈B10,w.heap.size<=b/\b≠r:=fun b hb=>by
   rcases n10 b hb with h | h
   ·exact H.n2 b h
   ·constructor <;> omega
  have b910:=b9.frame f10 (fun b hb h2=>(nB9 b hb).2.2.1 h2)
  have sep:∀ b∈B9,b∉B10:=fun b hb hb2=>by
   rcases n10 b hb2 with h | h
   ·exact (nB9 b hb).2.2.1 h
   ·have:=(nB9 b hb).2.2.2; omega
  refine qab (Own.st' ho10 0 rfl (pgRaw (some ⟨dbk,0,none⟩) sup s9 sn turn over wk) (qnY hs) rfl (by rw [qby hs,hw]; exact Nat.le_of_ble_eq_true rfl) fun w11 ho11 f11=>?_)
  refine qab (Own.st' ho11 0 rfl (pgRaw (some ⟨dbk,0,none⟩) sup s9 s10 turn over wk) (qnH hs) rfl (by rw [qby hs,hw]; exact Nat.le_of_ble_eq_true rfl) fun w12 ho12 f12=>?_)
  have f1112:=f11.trans f12
  have npb:∀ b,w.heap.size<=b->b∉[pb]:=fun b hb=>by simp; omega
  have hm12:=(((hmd.frame f8 (by simp)).frame f9 (fun h=>(H.n1 r h).2.1 rfl)).frame f10 (fun h=>(H.n2 r h).2 rfl)).frame f1112 (npb r H.nr)
  refine hX _ _ ⟨lists++[a],named++pv.2.1,s9,s10,B9,B10,f,⟨ho12,b910.frame f1112 (fun b hb=>npb b (nB9 b hb).1),b10.frame f1112 (fun b hb=>npb b (nB10 b hb).1),hm12,fun b hb=>⟨(nB9 b hb).1,(nB9 b hb).2.1,sep b hb⟩,nB10,H.nr,hpu,?_,?_,?_⟩,?_,hwalk⟩ ?_
  ·rw [List.nodup_append]
   exact ⟨H.nodup,by simp,fun x hx y hy=>by simp at hy; subst hy; exact fun e=>hal (e▸hx)⟩
  ·intro x hx
   rcases List.mem_append.1 hx with h | h
   ·exact H.range x h
   ·simp at h; subst h; exact ⟨ha2,hab⟩
  ·rw [List.length_append,List.length_append]
   have:[a].length=1:=rfl
   omega
  ·rw [List.length_append]
   have:[a].length=1:=rfl
   omega
  ·have key:∀ {w':World} {l:List Int},MapS u32V w' r (onesM l)->(match w'.heap[r]? with | some (.map es _)=>F0-es.size | _=>0)=F0-l.length:=by
    rintro w' l ⟨es,c,h1,h2,_⟩
    rw [h1]
    have:=congrArg List.length h2
    simp [onesM] at this
    simp [this]
   rw [key hm12,key H.map,List.length_append]
   have:[a].length=1:=rfl
   omega
 ·have ha0:a=0:=by simpa using hc1
  subst ha0
  rw [walkM,if_pos rfl] at hwalk
  rw [<- hwalk] at hload
  dsimp only at hload
  refine qab (Own.ld (c:=.slice) H.own 0 rfl sn (qeM hs 1 (by decide)) ?_)
  have rn:Rd [] w2 sn named:=H.b2.rds qau (by simp)
  have hnl:=rn.1
  have hml:=H.len
  have hl4:lists.length<=4096:=by omega
  refine qag (fun x w'=>w'=w2/\∃ i:Nat,x.2=i/\i<=named.length/\namedB (sup.2.getD 0 0) lists x.1 (named.drop i)=namedB (sup.2.getD 0 0) lists 0 named) (fun x _=>((named.length:Int)-x.2).toNat) ⟨rfl,0,rfl,by omega,rfl⟩ ?_
  rintro ⟨last,ii⟩ w' ⟨rfl,i,hi0,hi,hn⟩ Z hZ
  simp only at hi0 hn
  subst hi0
  refine qaa (fun hc=>?_) (fun hc=>?_)
  ·have hil:i<named.length:=by have:=of_decide_eq_true hc; dsimp only at this; omega
   refine Rd.at rn i rfl (List.getElem?_eq_getElem hil) ?_
   rw [List.drop_eq_getElem_cons hil,namedB] at hn
   refine qaf (fun b w3=>b=(decide (named[i]<=last)||decide (named[i]>=sup.2.getD 0 0)||decide (named[i]∈lists))/\w3=w') ?_ ?_
   ·refine qaa (fun h=>⟨by rw [h]; rfl,rfl⟩) (fun h=>?_)
    refine qab (Own.ld (c:=.int .u32) H.own 0 rfl (sup.2.getD 0 0) (qkl hs 0 (by decide)) ?_)
    refine qaa (fun h2=>⟨by rw [h,h2]; rfl,rfl⟩) (fun h2=>?_)
    refine qpZ H.map fun x hx=>⟨?_,rfl⟩
    rw [hx,h,h2]; rfl
   rintro b w3 ⟨rfl,rfl⟩
   refine qaa (fun h=>?_) (fun h=>?_)
   ·rw [h] at hn
    refine hno ?_ w3 fr2
    rw [hload,if_neg]
    rw [<- hn]
    simp
   ·rw [h] at hn
    rw [wi' _ (by dsimp only; omega)]
    exact hZ _ _ ⟨rfl,i+1,by simp,by omega,by simpa using hn⟩ (by dsimp only; omega)
  ·have:i=named.length:=by have:=of_decide_eq_false hc; dsimp only at this; omega
   subst this
   rw [List.drop_length] at hn
   have hn':namedB (sup.2.getD 0 0) lists 0 named=true:=hn.symm
   have hoD:=H.own.drew
   refine qab (Own.ld (c:=.slice) hoD 0 rfl sn (qeM hs 1 (by decide)) ?_)
   refine qab (Own.ld (c:=.int .u32) hoD 0 rfl (sup.2.getD 2 0) (qkl hs 2 (by decide)) ?_)
   rw [wi' _ (by omega)]
   by_cases hfree:(named.length:Int)=sup.2.getD 2 0
   ·rw [if_pos ⟨hn',hfree⟩] at hload
    have e:((sn.len:Int)==sup.2.getD 2 0)=true:=by rw [beq_iff_eq]; omega
    rw [e]
    refine hk sl sn lists named _ hload hoD fun G hG=>?_
    have away:∀ b,w.heap.size<=b->b∉G:=fun b hb h=>by have:=hG b h; omega
    exact ⟨(H.b1.frame0 ((Fr.refl [] w').drew)).rds qau fun b hb=>away b (H.n1 b hb).1,(H.b2.frame0 ((Fr.refl [] w').drew)).rds qau fun b hb=>away b (H.n2 b hb).1⟩
   ·have e:((sn.len:Int)==sup.2.getD 2 0)=false:=by rw [beq_eq_false_iff_ne]; omega
    rw [e]
    exact hno (by rw [hload,if_neg (fun h=>hfree h.2)]) _ hoD.fr
theorem andThen_ok {D:DiskM} {f:DiskM->DiskM×Int}:andThen (D,0) f=f D:=if_pos rfl
structure SupOk (s:Sup):Prop where
 seq:0<=s.1/\s.1<4611686018427387904
 len:s.2.length=27
 u32:∀ x∈s.2,U32 x
theorem SupOk.place {s:Sup} (h:SupOk s):Int.tmod s.1 2=s.1%2:=Int.tmod_eq_emod_of_nonneg h.seq.1
theorem SupOk.superP {s:Sup} (h:SupOk s):superP s=(s.1%2,sealV (s.1%2) 1 (superB s.1 s.2)):=by
 rw [Go.Proofs.YtmbcedengdoamaaGreatDoor.superP,h.place,qaL _ (by omega)]
theorem SupOk.read {s:Sup} (h:SupOk s):readSV (s.1%2) (sealV (s.1%2) 1 (superB s.1 s.2))=(s,0):=by
 have:=h.seq
 exact qqX (by constructor <;> omega) h.len h.u32 h.place
theorem SupOk.sealLen {s:Sup} (h:SupOk s) (p:Int):(sealV p 1 (superB s.1 s.2)).length=512:=qct (by rw [qbS h.len]; decide)
theorem Quiet.sealOk {D:DiskM} {s:Sup} (h:Quiet D) (hs:SupOk s) (hz:8<=D.size) :
  ∃ D',sealM D s=(D',0)/\Quiet D'/\D'.size=D.size/\D'.waits=[]/\view D' (s.1%2)=sealV (s.1%2) 1 (superB s.1 s.2)/\∀ m,0<=m->m≠s.1%2->view D' m=view D m:=by
 obtain ⟨D1,e1,q1,s1,v1⟩:=h.write (n:=s.1%2) (l:=sealV (s.1%2) 1 (superB s.1 s.2)) (by omega) (hs.sealLen _)
 obtain ⟨D2,e2,q2,s2,w2,v2⟩:=q1.sync
 refine ⟨D2,?_,q2,s2.trans s1,w2,by rw [v2 _ (by omega),v1,if_pos rfl],fun m hm hne=>by rw [v2 m hm,v1,if_neg hne]⟩
 rw [sealM,hs.superP]
 show andThen (writeM D (s.1%2) _) syncM=_
 rw [e1]
 exact e2
theorem qqn {p:Int}:(readSV p (zs 512)).2≠0:=by
 have hk:(openV p (zs 512)).1=0:=by
  unfold openV
  split <;> (try rfl)
  split <;> (try rfl)
  split <;> (try rfl)
  split <;> (try rfl)
  split <;> rfl
 unfold readSV
 generalize openV p (zs 512)=o at hk ⊢
 by_cases h:o.2.2≠0
 ·rw [if_pos h]; exact h
 ·have hc:o.1≠1\/o.2.1.length≠116:=.inl (by rw [hk]; decide)
  rw [if_neg h,if_pos hc]
  exact (by decide:(2:Int)≠0)
theorem qnw {n i:Nat} (h:i<n-2):(allV n)[i]?=some ((i:Int)+2):=by rw [allV,List.getElem?_map,List.getElem?_range h]; rfl
theorem qhS (n:Nat):(allV n).length=n-2:=by simp [allV]
theorem qib {n:Nat} {x:Int}:x∈allV n↔2<=x/\x<n:=by
 rw [allV,List.mem_map]
 constructor
 ·rintro ⟨i,hi,rfl⟩
  rw [List.mem_range] at hi
  omega
 ·rintro ⟨h1,h2⟩
  exact ⟨(x-2).toNat,by rw [List.mem_range]; omega,by omega⟩
theorem qh5 (n:Nat):(allV n).Pairwise (· < ·):=by
 rw [allV,List.pairwise_map]
 exact List.pairwise_lt_range.imp (fun h=>by omega)
theorem qhO {n:Nat}:n<=124*needP n:=by
 unfold needP
 split
 ·omega
 ·have:=Nat.div_add_mod (n-1) 124
  have:=Nat.mod_lt (n-1) (show 0<124 by decide)
  omega
theorem qh6 {n:Nat}:needP n<=n:=by
 unfold needP
 split
 ·omega
 ·have:=Nat.div_le_self (n-1) 124
  omega
theorem qic {n:Nat}:ListOk n ((allV n).drop (needP (allV n).length)) ((allV n).take (needP (allV n).length)) where
 rises:=(qh5 n).sublist (List.drop_sublist _ _)
 nums:=fun x hx=>qib.1 (List.mem_of_mem_drop hx)
 pgs:=fun x hx=>qib.1 (List.mem_of_mem_take hx)
 nodup:=(qcg (qh5 n)).sublist (List.take_sublist _ _)
 apart:=fun x hx hm=>by
  have h:=qcg (qh5 n)
  rw [<- List.take_append_drop (needP (allV n).length) (allV n),List.nodup_append] at h
  exact h.2.2 x hx x hm rfl
 room:=by
  have h1:=qhO (n:=(allV n).length)
  have h2:=qh6 (n:=(allV n).length)
  rw [List.length_drop,List.length_take,Nat.min_eq_left h2]
  omega
theorem qgo {n:Nat} (h8:8<=n) (h4:n<=4096):SupOk (fmtSup n) where
 seq:=⟨(by decide:(0:Int)<=1),(by decide:(1:Int)<4611686018427387904)⟩
 len:=rfl
 u32:=fun x hx=>by
  simp only [fmtSup,List.mem_append,List.mem_cons,List.not_mem_nil,or_false] at hx
  rcases hx with (rfl | rfl | rfl) | hx
  ·exact qa8 _
  ·exact ⟨by decide,by decide⟩
  ·exact qa8 _
  ·have:=List.eq_of_mem_replicate hx
   subst this
   exact ⟨by decide,by decide⟩
theorem qp3 {D:DiskM} {n:Nat} (h:Quiet D) (hn:D.size=n) (h8:8<=n) (h4:n<=4096) :
  ∃ D',formatM D=(D',0)/\Quiet D'/\D'.size=n/\D'.waits=[]/\Opens D' (fmtSup n) ((allV n).take (needP (allV n).length)) ((allV n).drop (needP (allV n).length))/\view D' 0=zs 512:=by
 have hsn:D.safe.length=n:=by have:(D.safe.length:Int)=n:=hn; omega
 obtain ⟨D1,e1,q1,s1,v1⟩:=h.write (n:=0) (l:=zs 512) (by omega) (qaC _)
 obtain ⟨D2,e2,q2,s2,v2⟩:=q1.write (n:=1) (l:=zs 512) (by omega) (qaC _)
 obtain ⟨D3,e3,q3,s3,w3,v3⟩:=q2.sync
 have hs3:D3.size=n:=by omega
 have hl3:D3.safe.length=n:=by have:(D3.safe.length:Int)=n:=hs3; omega
 have hlk:=qic (n:=n)
 rw [<- hs3] at hlk
 obtain ⟨D4,e4,q4,s4,w4,l4,v4⟩:=q3.spread hlk
 have hs4:D4.size=n:=by omega
 have hl4:D4.safe.length=n:=by have:(D4.safe.length:Int)=n:=hs4; omega
 obtain ⟨D5,e5,q5,s5,w5,p5,v5⟩:=q4.sealOk (qgo h8 h4) (by omega)
 have hf1:(fmtSup n).1%2=1:=rfl
 rw [hf1] at p5 v5
 have hpg:=hlk.pgs
 have z0:view D5 0=zs 512:=by
  rw [v5 0 (by decide) (by decide),v4 0 (by decide) (fun hm=>by have:=hpg 0 hm; omega),v3 0 (by decide),v2,if_neg (by decide),v1,if_pos rfl]
 refine ⟨D5,?_,q5,by omega,w5,?_,z0⟩
 ·rw [formatM,e1,andThen_ok,e2,andThen_ok,e3,andThen_ok,hl3,e4,andThen_ok,hl4,e5]
 ·have hk1:1<=needP (allV n).length:=by
   have:=qhO (n:=(allV n).length)
   rw [qhS] at this ⊢
   omega
  refine { down:=q5.down,size:=by omega,newest:=?_,blocks:=?_,list:=?_,free:=?_,ok:=by rw [show D5.size=D3.size by omega]; exact hlk,listed:=fun i p hp=>?_ }
  ·have hr:=(qgo h8 h4).read
   rw [hf1] at hr
   rw [z0,p5,newestV,hr,if_neg (by simp),if_pos (.inl qqn)]
  ·show IntKind.wrap .u32 (n:Int)=_
   rw [qaL _ (by omega)]; omega
  ·have:(allV n).take (needP (allV n).length)=2::((allV n).take (needP (allV n).length)).drop 1:=by
    have h0:(allV n)[0]?=some 2:=by rw [qnw (by omega)]; rfl
    obtain ⟨k,hk⟩:∃ k,needP (allV n).length=k+1:=⟨needP (allV n).length-1,by omega⟩
    rw [hk]
    cases hA:allV n with
    | nil=>rw [hA] at h0; cases h0
    | cons a r=>rw [hA] at h0; simp at h0; subst h0; rfl
   rw [this]
   rfl
  ·show IntKind.wrap .u32 _=_
   have:=qh6 (n:=(allV n).length)
   rw [List.length_drop,qaL _ (by rw [qhS] at *; omega)]
   omega
  ·have:=hpg p (List.mem_of_getElem? hp)
   rw [v5 p (by omega) (by omega)]
   exact l4 i p hp
theorem qrL (n:Nat):Quiet (newM n):=⟨rfl,rfl,fun x hx=>by cases hx⟩
theorem qtu (n:Nat):(newM n).size=n:=by show ((List.replicate n Blk.zero).length:Int)=n; simp
theorem qdV {w w':World} {s:Sl} {l:List Int} (h:Told w w' s l):∃ B,BufU w' s l B/\∀ b∈B,w.heap.size<=b:=by
 rcases h with ⟨rfl,rfl⟩ | ⟨b,d,T,cap,rfl,hb,hd,hc,ht,hbw,hcap⟩
 ·exact ⟨[],.nil _ _ _,by simp⟩
 ·refine ⟨[b],.inr ⟨b,0,u32s d,T,rfl,rfl,rfl,hb,rfl,hc,by rw [qc9]; dsimp only; omega,?_⟩,by simpa using hbw⟩
  rw [List.drop_zero,Nat.mul_one,u32s,Array.toList_map,<- List.map_take,ht,qfW]
def newestM (D:DiskM):Sup×Int:=
 if (readV D 0).2≠0 then (supZero,(readV D 0).2) else if (readV D 1).2≠0 then (supZero,(readV D 1).2) else newestV (readV D 0).1 (readV D 1).1
theorem qqI (D:DiskM):(newestM D).1.2.length=27:=by
 unfold newestM
 split
 ·rfl
 split
 ·rfl
 ·exact qea _ _
theorem qrX {w:World} {dbk:Nat} {FD:List Nat} {D:DiskM} {K:List Value×Int->World->Prop} (h:DiskAt w dbk FD D) (hD:D.Ok) (hv:Hv w)
  (hk:∀ w',Fr [] w w'->K (supV (newestM D).1.1 (newestM D).1.2,(newestM D).2) w') :
  call Tryz.prog 62 [.pointer (some ⟨dbk,0,none⟩)] [.raw,.one (.int .i64)] w K:=by
 refine ql7 (d:=some ⟨dbk,0,none⟩) ?_
 unfold qiI
 refine Own.newZ (Own.start [] w) qbg fun r w1 e1 ho=>?_
 refine qfO (h.frame0 ho.fr) hD fun s2 B2 w2 b2 f2 n2=>?_
 have ho:=ho.frame0 f2
 refine qaa (fun hc=>?_) (fun hc=>?_)
 ·have hc:(readV D 0).2≠0:=by simpa using hc
  refine qbY ?_
  refine qa0 ho 0 rfl rfl rfl fun w3 f3=>?_
  have:=hk w3 f3
  rw [newestM,if_pos hc] at this
  exact this
 have hc0:¬ (readV D 0).2≠0:=by simpa using hc
 refine qfO (h.frame0 ho.fr) hD fun s3 B3 w3 b3 f3 n3=>?_
 have ho:=ho.frame0 f3
 refine qaa (fun hc=>?_) (fun hc=>?_)
 ·have hc:(readV D 1).2≠0:=by simpa using hc
  refine qbY ?_
  refine qa0 ho 0 rfl rfl rfl fun w3 f3=>?_
  have:=hk w3 f3
  rw [newestM,if_neg hc0,if_pos hc] at this
  exact this
 have hc1:¬ (readV D 1).2≠0:=by simpa using hc
 have i0:=qaY hD 0
 have i1:=qaY hD 1
 refine qr9 ((b2.frame0 f3).rds qat (S:=[]) (by simp)) (b3.rds qat (S:=[]) (by simp)) (hv.frame0 ho.fr) i0.1 i1.1 (by omega) (by omega) fun w4 f4=>?_
 refine qa0 (ho.frame0 f4) 0 rfl rfl (qea _ _) fun w5 f5=>?_
 have:=hk w5 f5
 rw [newestM,if_neg hc0,if_neg hc1] at this
 exact this
theorem qjo (D:DiskM):openM D=if (newestM D).2≠0 then (none,(newestM D).2) else if (newestM D).1.2.getD 0 0≠D.safe.length then (none,2) else
  match loadM D (newestM D).1 with | none=>(none,2) | some x=>(some (begunM (newestM D).1 x.1 x.2 1 false x.2),0):=by
 unfold openM newestM
 by_cases h0:(readV D 0).2≠0
 ·rw [if_pos h0,if_pos h0]; exact (if_pos h0).symm
 ·rw [if_neg h0,if_neg h0]
  by_cases h1:(readV D 1).2≠0
  ·rw [if_pos h1,if_pos h1]; exact (if_pos h1).symm
  ·rw [if_neg h1,if_neg h1] <;> rfl
theorem pgZ:(Tryz.prog.info? PGT).bind (·.zero)=some (.agg (pgRaw none supZero ⟨none,0,0⟩ ⟨none,0,0⟩ 0 false (workV none none none (zs 24)))):=by kernel_rfl
theorem qt0 {d:Option Addr} {q:Int} {t:List Int} (ht:t.length=27) (w:World) :
  (Instr.build PGT #[(0,.pointer d),(1,.agg (supV q t).toArray)]).run Tryz.prog w=.ok (.agg (pgRaw d (q,t) ⟨none,0,0⟩ ⟨none,0,0⟩ 0 false (workV none none none (zs 24)))) w:=by
 refine qa4 (parts:=[(0,.pointer d),(1,.agg (supV q t).toArray)]) (offs:=#[(0,1),(1,28),(29,1),(30,1),(31,1),(32,1),(33,27)]) pgZ (by kernel_rfl) (fun w=>by kernel_rfl) ?_ w
 have hs:(Value.agg (supV q t).toArray).cells.size=28:=qcj ht
 rw [qao (o:=0) (s:=1) rfl rfl (Nat.le_of_ble_eq_true rfl),qao (o:=1) (s:=28) rfl hs (Nat.le_of_ble_eq_true rfl)]
 show some _=_
 congr 1
 have h1:splice (Value.agg (pgRaw none supZero ⟨none,0,0⟩ ⟨none,0,0⟩ 0 false (workV none none none (zs 24)))).cells 0 (Value.pointer d).cells.toList=pgRaw d supZero ⟨none,0,0⟩ ⟨none,0,0⟩ 0 false (workV none none none (zs 24)):=rfl
 rw [h1]
 have:=qaq (A:=[Value.pointer d]) (X:=supV 0 (zs 27)) (Y:=supV q t) (Z:=[.slice none 0 0,.slice none 0 0,.int .i64 0,.bool false]++workV none none none (zs 24)) (by rw [qay ht]; rfl)
 refine Eq.trans ?_ (this.trans ?_)
 ·show splice (pgRaw d supZero ⟨none,0,0⟩ ⟨none,0,0⟩ 0 false (workV none none none (zs 24))) 1 (supV q t)=_
  congr 1
 ·simp [pgRaw]
theorem qfh (l:List Int):U32 (first4 l):=qfR
theorem qfk (place:Int) (l:List Int):∀ x∈(readSV place l).1.2,U32 x:=by
 have hz:∀ x∈supZero.2,U32 x:=fun x hx=>by
  have:=List.eq_of_mem_replicate (show x∈List.replicate 27 (0:Int) from hx)
  subst this
  exact ⟨by decide,by decide⟩
 unfold readSV
 split
 ·exact hz
 split
 ·exact hz
 split
 ·exact hz
 ·intro x hx
  obtain ⟨i,_,rfl⟩:=List.mem_map.1 hx
  exact qfR
theorem qk8 (D:DiskM):∀ x∈(newestM D).1.2,U32 x:=by
 have hz:∀ x∈supZero.2,U32 x:=fun x hx=>by
  have:=List.eq_of_mem_replicate (show x∈List.replicate 27 (0:Int) from hx)
  subst this
  exact ⟨by decide,by decide⟩
 unfold newestM
 split
 ·exact hz
 split
 ·exact hz
 unfold newestV
 split
 ·exact hz
 split
 ·exact qfk _ _
 ·exact qfk _ _
theorem qd2 {l:List Int} (h:∀ x∈l,U32 x) (n:Nat):U32 (l.getD n 0):=by
 rw [List.getD_eq_getElem?_getD]
 cases he:l[n]? with
 | none=>exact ⟨by decide,by decide⟩
 | some x=>exact h x (List.mem_of_getElem? he)
theorem qn6 {w:World} {dbk:Nat} {FD:List Nat} {D:DiskM} {K:Option Addr×Int->World->Prop} (X:List Nat) (hXl:∀ b∈X,b<w.heap.size) (h:DiskAt w dbk FD D) (hD:D.Ok) (hv:Hv w)
  (hno:(openM D).1=none->∀ w',Fr [] w w'->K (none,(openM D).2) w')
  (hk:∀ pb F M w',openM D=(some M,0)->PagerAt w' X pb (some ⟨dbk,0,none⟩) F M->Fr [] w w'->(∀ b∈F,w.heap.size<=b)->K (some ⟨pb,0,none⟩,0) w') :
  call Tryz.prog 24 [.pointer (some ⟨dbk,0,none⟩)] [.one .ptr,.one (.int .i64)] w K:=by
 refine qoH (d:=some ⟨dbk,0,none⟩) ?_
 unfold qkT
 refine qrX h hD hv fun w1 f1=>?_
 have hsl:=qqI D
 have hu:=qd2 (qk8 D)
 have hopen:=qjo D
 generalize hs:newestM D=sm at hsl hu hopen
 obtain ⟨sup,e⟩:=sm
 simp only at hsl hu hopen
 refine Own.newZ ((Own.start [] w).frame0 f1) qbg fun r w2 e2 ho=>?_
 refine qcN ho 0 rfl rfl hsl fun w3 ho=>?_
 refine qaa (fun hc=>?_) (fun hc=>?_)
 ·have hc:e≠0:=by simpa using hc
  rw [if_pos hc] at hopen
  have:=hno (by rw [hopen]) w3 ho.fr
  rw [hopen] at this
  exact this
 have he0:¬ e≠0:=by simpa using hc
 rw [if_neg he0] at hopen
 refine qbo (ho.at (i:=0) rfl) hsl ?_
 refine qax (ts:=[Ty1.raw]) (pgRaw (some ⟨dbk,0,none⟩) (sup.1,sup.2) ⟨none,0,0⟩ ⟨none,0,0⟩ 0 false (workV none none none (zs 24))).toList (qt0 hsl w3) ?_
 refine Own.new' ho fun pb w4 e4 f4 ho4=>?_
 have f04:=ho4.fr
 have hd4:=h.frame0 f04
 have hpFD:∀ b∈FD,b<w4.heap.size/\b≠pb:=fun b hb=>by
  have h1:=h.lt b hb
  have:=f04.size
  have:=ho.fr.size
  constructor <;> omega
 have hpX:∀ b∈X,b<w4.heap.size/\b≠pb:=fun b hb=>by
  have h1:=hXl b hb
  have:=f04.size
  have:=ho.fr.size
  constructor <;> omega
 have hsafe:=hD.safe
 have hcell:w4.heap[pb]?=some (.cells (pgRaw (some ⟨dbk,0,none⟩) sup ⟨none,0,0⟩ ⟨none,0,0⟩ 0 false (workV none none none (zs 24))) PGT (0,0)):=ho4.at (i:=0) rfl
 have hsup:w4.heap[r]?=some (.cells (supV sup.1 sup.2).toArray 58 (0,0)):=ho4.at (i:=1) rfl
 have hpw:w.heap.size<=pb:=by have:=ho.fr.size; omega
 have hpv:pb≠HG:=by have:=hv.lt; omega
 refine qaf (fun b w'=>(b=true/\(openM D).1=none/\(openM D).2=2/\Fr [] w w')\/(b=false/\∃ sl sn lists named,openM D=(some (begunM sup lists named 1 false named),0)/\Own [pb] w4 w' [(pb,.cells (pgRaw (some ⟨dbk,0,none⟩) sup sl sn 0 false (workV none none none (zs 24))) PGT (0,0))]/\Rd (X++[pb]) w' sl lists/\Rd (X++[pb]) w' sn named/\named.Pairwise (· < ·)/\named.length<=100000)) ?_ ?_
 ·refine qae (w:=w4.drew) (c:=.int .u32) hsup (sup.2.getD 0 0) (qb0 0 (by omega)) ?_
  refine qkb (hd4.frame0 (Fr.refl [] w4).drew) ?_
  refine qan (by rw [qaj (w:=w4.drew) hsup]; exact qb0 0 (by omega)) ?_
  rw [qaL (D.safe.length:Int) (by omega)]
  refine qaa (fun hc=>?_) (fun hc=>?_)
  ·have hc:sup.2.getD 0 0≠(D.safe.length:Int):=by
    intro h; rw [h] at hc; simp at hc
   rw [if_pos hc] at hopen
   exact .inl ⟨rfl,by rw [hopen],by rw [hopen],f04.drew⟩
  have hc:sup.2.getD 0 0=(D.safe.length:Int):=by
   by_cases h:sup.2.getD 0 0=(D.safe.length:Int)
   ·exact h
   ·rw [show ((sup.2.getD 0 0==(D.safe.length:Int))=false) by rw [beq_eq_false_iff_ne]; exact h] at hc; cases hc
  rw [if_neg (by rw [hc]; simp)] at hopen
  have f4d:Fr [] w4 w4.drew:=(Fr.refl [] w4).drew
  refine quM (pb:=pb) (D:=D) (sup:=sup) (FD:=FD) (w:=w4.drew) hcell hsl (qaB (by rfl)) (hd4.frame0 f4d) hD ((hv.frame0 f04).frame0 f4d) (fun hb=>(hpFD pb hb).2 rfl) hpv (by omega) (hu 1) (hu 2) (fun hl w5 f5=>?_) (fun sl sn lists named w5 hl ho5 r12=>?_)
  ·rw [hl] at hopen
   refine .inl ⟨rfl,by rw [hopen],by rw [hopen],(f04.trans f4d).trans' f5 fun b hb=>by simp at hb; subst hb; exact .inr hpw⟩
  ·rw [hl] at hopen
   have hnb:namedB (sup.2.getD 0 0) lists 0 named=true:=by
    unfold loadM at hl
    split at hl
    ·cases hl
    ·rename_i x hx
     split at hl
     ·rename_i hh
      cases hl
      exact hh.1
     ·cases hl
   have hnb:=(qfi _ _ _ _).1 hnb
   have hlen:named.length<=100000:=by
    have:=qdl (n:=sup.2.getD 0 0+1) (l:=named.map (·+1)) (by
     rw [List.Nodup,List.pairwise_map]
     exact hnb.2.imp (fun h=>by omega)) (fun x hx=>by
     obtain ⟨y,hy,rfl⟩:=List.mem_map.1 hx
     have:=hnb.1 y hy
     omega)
    rcases this with h | h
    ·rw [List.length_map] at h; omega
    ·have:=congrArg List.length h; simp at this; simp [this]
   have hXpb:∀ b∈X++[pb],b<w4.drew.heap.size:=fun b hb=>by
    rcases List.mem_append.1 hb with hb | hb
    ·exact (hpX b hb).1
    ·rw [List.mem_singleton.1 hb]; exact qac hcell
   refine .inr ⟨rfl,sl,sn,lists,named,hopen,⟨ho5.blk,ho5.nodup,(f4d.mono (fun b hb=>by cases hb)).trans ho5.fr,ho5.own⟩,(r12 _ hXpb).1,(r12 _ hXpb).2,hnb.2,hlen⟩
 rintro b w5 (⟨rfl,h1,h2,f5⟩ | ⟨rfl,sl,sn,lists,named,hop,ho5,r1,r2,hp,hlen⟩)
 ·refine cond_true rfl ?_
  have:=hno h1 w5 f5
  rw [h2] at this
  exact this
 ·refine cond_false rfl ?_
  have hX:∀ b∈X,b<w5.heap.size/\b≠pb:=fun b hb=>⟨Nat.lt_of_lt_of_le (hpX b hb).1 ho5.fr.size,(hpX b hb).2⟩
  refine qgt (X:=X) (ho5.at (i:=0) rfl) hsl (qaB (by rfl)) (by decide) hX r1 r2 hlen fun F w6 hp6 f6 n6=>?_
  rw [qgq hp] at hp6
  refine hk pb F _ w6 hop hp6 ((f04.trans' ho5.fr fun b hb=>by simp at hb; subst hb; exact .inr hpw).trans' f6 fun b hb=>by simp at hb; subst hb; exact .inr hpw) fun b hb=>?_
  rcases n6 b hb with h | h
  ·rw [h]; exact hpw
  ·exact Nat.le_trans (Nat.le_trans f04.size ho5.fr.size) h
structure Lim (D:DiskM) (k:Nat):Prop where
 ok:D.Ok
 waits:D.waits.length<=k
 writes:D.writes<=k
theorem qrp {D:DiskM} (h:D.Ok):(actM D).1.Ok/\(actM D).1.writes=D.writes:=by
 have hf:=h.fuse
 unfold actM
 split
 ·exact ⟨⟨h.at_,hf,h.safe,h.waits,h.writes,h.bytesS,h.bytesW⟩,rfl⟩
 ·split
  ·exact ⟨⟨h.at_,⟨by show -1<=D.fuse-1; omega,by show D.fuse-1<=_; omega⟩,h.safe,h.waits,h.writes,h.bytesS,h.bytesW⟩,rfl⟩
  ·exact ⟨h,rfl⟩
theorem Lim.mono {D:DiskM} {k k':Nat} (h:Lim D k) (hk:k<=k'):Lim D k':=⟨h.ok,Nat.le_trans h.waits hk,by have:=h.writes; omega⟩
theorem Lim.write {D:DiskM} {k:Nat} {n:Int} {l:List Int} (h:Lim D k) (hk:k<1000000) (hl:IsB l):Lim (writeM D n l).1 (k+1):=by
 unfold writeM
 split
 ·exact h.mono (by omega)
 split
 ·exact h.mono (by omega)
 split
 ·rename_i h1 h2 h3
  have ha:(addW D n ⟨l,h3⟩).Ok:={
   at_:=fun x hx=>by
    rcases List.mem_append.1 hx with hx | hx
    ·exact h.ok.at_ x hx
    ·simp at hx; subst hx; show 0<=n/\n<(D.safe.length:Int); omega
   fuse:=h.ok.fuse
   safe:=h.ok.safe
   waits:=by show (D.waits++[_]).length<=_; have:=h.waits; simp; omega
   writes:=⟨by show 0<=D.writes+1; have:=h.ok.writes; omega,by show D.writes+1<=_; have:=h.writes; omega⟩
   bytesS:=h.ok.bytesS
   bytesW:=fun x hx=>by
    rcases List.mem_append.1 hx with hx | hx
    ·exact h.ok.bytesW x hx
    ·simp at hx; subst hx; exact hl }
  obtain ⟨h4,h5⟩:=qrp ha
  refine ⟨h4,?_,?_⟩
  ·show (actM (addW D n ⟨l,h3⟩)).1.waits.length<=k+1
   rw [(qel _).2]
   show (D.waits++[_]).length<=_
   have:=h.waits
   simp; omega
  ·show (actM (addW D n ⟨l,h3⟩)).1.writes<=((k+1:Nat):Int)
   rw [h5]
   show D.writes+1<=_
   have:=h.writes
   omega
 ·exact h.mono (by omega)
theorem qrt:∀ (l:List (Int×Blk)) (s:List Blk),(∀ x∈l,IsB x.2.1)->(∀ b∈s,IsB b.1)->∀ b∈l.foldl laySafe s,IsB b.1
 | [],s,_,h=>h
 | x::l,s,hl,h=>qrt l (laySafe s x) (fun y hy=>hl y (List.mem_cons_of_mem _ hy)) fun b hb=>by
  rcases List.mem_or_eq_of_mem_set hb with hb | rfl
  ·exact h b hb
  ·exact hl x (by simp)
theorem Lim.sync {D:DiskM} {k:Nat} (h:Lim D k):Lim (syncM D).1 k:=by
 obtain ⟨h4,h5⟩:=qrp h.ok
 unfold syncM
 split
 ·exact h
 split
 ·exact ⟨h4,by show (actM D).1.waits.length<=k; rw [(qel D).2]; exact h.waits,by show (actM D).1.writes<=_; rw [h5]; exact h.writes⟩
 ·refine ⟨⟨(fun x hx=>by cases hx),h4.fuse,?_,by simp,h4.writes,?_,(fun x hx=>by cases hx)⟩,by simp,by show (actM D).1.writes<=_; rw [h5]; exact h.writes⟩
  ·show (D.waits.foldl laySafe D.safe).length<=4096
   rw [qb2]; exact h.ok.safe
  ·exact qrt _ _ h.ok.bytesW h.ok.bytesS
theorem Lim.then {r:DiskM×Int} {f:DiskM->DiskM×Int} {k k':Nat} (h:Lim r.1 k) (hk:k<=k') (hf:∀ D,Lim D k->Lim (f D).1 k'):Lim (andThen r f).1 k':=by
 unfold andThen
 split
 ·exact hf _ h
 ·exact h.mono hk
theorem Lim.writes':∀ {l:List (Int×List Int)} {D:DiskM} {k:Nat},Lim D k->k+l.length<=1000000->(∀ x∈l,IsB x.2)->Lim (writesM l D).1 (k+l.length)
 | [],D,k,h,_,_=>h
 | x::l,D,k,h,hk,hl=>by
  rw [List.length_cons] at hk ⊢
  refine Lim.then (k:=k+1) (h.write (by omega) (hl x (by simp))) (by omega) fun D' h'=>?_
  have:=Lim.writes' (l:=l) h' (by omega) (fun y hy=>hl y (List.mem_cons_of_mem _ hy))
  rw [Nat.add_right_comm] at this
  exact this
theorem qcE {D:DiskM} {n:Int} {l:List Int}:(writeM D n l).1.safe.length=D.safe.length:=by
 unfold writeM
 split
 ·rfl
 split
 ·rfl
 split
 ·show (actM _).1.safe.length=_; rw [(qel _).1]; rfl
 ·rfl
theorem qgF {D:DiskM}:(syncM D).1.safe.length=D.safe.length:=by
 unfold syncM
 split
 ·rfl
 split
 ·show (actM _).1.safe.length=_; rw [(qel _).1]
 ·show (D.waits.foldl laySafe D.safe).length=_; rw [qb2]
theorem qet {r:DiskM×Int} {f:DiskM->DiskM×Int} {n:Nat} (h:r.1.safe.length=n) (hf:∀ D:DiskM,D.safe.length=n->(f D).1.safe.length=n):(andThen r f).1.safe.length=n:=by
 unfold andThen
 split
 ·exact hf _ h
 ·exact h
theorem qgP:∀ {l:List (Int×List Int)} {D:DiskM},(writesM l D).1.safe.length=D.safe.length
 | [],D=>rfl
 | x::l,D=>qet qcE fun D' h=>by rw [qgP,h]
theorem qgQ {D:DiskM} {a b:List Int}:(spreadM D a b).1.safe.length=D.safe.length:=by
 unfold spreadM
 split
 ·rfl
 ·exact qet qgP fun D' h=>by rw [qgF,h]
theorem qth {D:DiskM} {s:Sup}:(sealM D s).1.safe.length=D.safe.length:=qet qcE fun D' h=>by rw [qgF,h]
theorem qqF {numbers pages:List Int}:∀ x∈(pages.zip (bodiesV numbers pages).1).map fun x=>(x.1,sealV x.1 2 x.2),IsB x.2:=by
 intro x hx
 obtain ⟨y,hy,rfl⟩:=List.mem_map.1 hx
 refine qcn (by decide) ?_
 have hy:=(List.of_mem_zip hy).2
 unfold bodiesV at hy
 split at hy
 ·cases hy
 split at hy
 ·cases hy
 ·obtain ⟨i,_,he⟩:=List.mem_map.1 hy
  rw [<- he]
  exact qj9 _ _
theorem ql1 {α β:Type} (a:List α) (b:List β):(a.zip b).length<=a.length:=by rw [List.length_zip]; exact Nat.min_le_left _ _
theorem Lim.spread {D:DiskM} {k:Nat} {numbers pages:List Int} (h:Lim D k) (hk:k+pages.length<=1000000):Lim (spreadM D numbers pages).1 (k+pages.length):=by
 unfold spreadM
 split
 ·exact h.mono (by omega)
 ·have hle:=ql1 pages (bodiesV numbers pages).1
  refine Lim.then (k:=k+pages.length) ?_ (Nat.le_refl _) fun D' h'=>h'.sync
  refine (Lim.writes' h (by rw [List.length_map]; omega) qqF).mono ?_
  rw [List.length_map]
  omega
theorem qmO (s:Sup):IsB (superP s).2:=qcn (by decide) (qmd _ _)
theorem qiD {numbers pages:List Int} {i:Nat} {bs:List (List Int)} (hp:i<pages.length) (hb:i<bs.length):(pages.zip bs).drop i=(pages[i],bs[i])::(pages.zip bs).drop (i+1):=by
 rw [List.drop_eq_getElem_cons (by rw [List.length_zip]; omega)]
 simp
theorem qsd {w:World} {dbk k:Nat} {FD:List Nat} {D:DiskM} {sn sp:Sl} {numbers pages:List Int} {K:Int->World->Prop} (h:DiskAt w dbk FD D) (hD:Lim D k) (hk6:k+pages.length<=1000000) (hv:Hv w) (hg:HG∉FD)
  (hn:Rd FD w sn numbers) (hp:Rd FD w sp pages) (hnl:numbers.length<=100000) (hpl:pages.length<=100000) (hpu:∀ x∈pages,U32 x)
  (hk:∀ F' w',DiskAt w' dbk F' (spreadM D numbers pages).1->Fr FD w w'->(∀ b∈F',b∈FD\/w.heap.size<=b)->K (spreadM D numbers pages).2 w') :
  call Tryz.prog 89 [.pointer (some ⟨dbk,0,none⟩),.slice sn.a sn.len sn.cap,.slice sp.a sp.len sp.cap] [.one (.int .i64)] w K:=by
 refine qlZ (d:=some ⟨dbk,0,none⟩) (numbers:=sn) (pages:=sp) ?_
 unfold qiO
 refine qso (G:=FD) hn hp hnl hpl h.lt fun s1 B1 w1 b1 f1 n1=>?_
 refine qaa (fun hc=>?_) (fun hc=>?_)
 ·have hc:(bodiesV numbers pages).2≠0:=by simpa using hc
  have:=hk FD w1 (by rw [spreadM,if_pos hc]; exact h.frame0 f1) (f1.mono fun b hb=>by cases hb) (fun b hb=>.inl hb)
  rw [spreadM,if_pos hc] at this
  exact this
 have hc0:¬ (bodiesV numbers pages).2≠0:=by simpa using hc
 rw [spreadM,if_neg hc0] at hk
 have hbl:(bodiesV numbers pages).1.length=pages.length/\∀ b∈(bodiesV numbers pages).1,b.length<=500/\IsB b:=by
  unfold bodiesV at hc0 ⊢
  split
  ·rename_i h1; rw [if_pos h1] at hc0; exact absurd (by decide) hc0
  rename_i h1; rw [if_neg h1] at hc0
  split
  ·rename_i h1; rw [if_pos h1] at hc0; exact absurd (by decide) hc0
  ·refine ⟨qeg _ _ _,fun b hb=>?_⟩
   obtain ⟨i,_,rfl⟩:=List.mem_map.1 hb
   rw [qeo]
   have:=qgB numbers i
   unfold chunk at this
   exact ⟨by omega,qj9 _ _⟩
 generalize (bodiesV numbers pages).1=bs at hk hbl b1
 obtain ⟨sls,q1,q2,q3⟩:=b1
 have hsl:=q1.len
 have hbl1:=hbl.1
 have hlp:=hp.1
 refine qag (fun x w'=>∃ (i j:Nat) (F':List Nat) (D':DiskM),x=i/\i<=pages.length/\DiskAt w' dbk F' D'/\Lim D' (k+i)/\Fr FD w w'/\Fr FD w1 w'/\(∀ b∈F',b∈FD\/w1.heap.size<=b)/\
   andThen (writesM ((pages.zip bs).map fun x=>(x.1,sealV x.1 2 x.2)) D) syncM=andThen (writesM (((pages.zip bs).drop i).map fun x=>(x.1,sealV x.1 2 x.2)) D') syncM) (fun x _=>((pages.length:Int)-x).toNat)
  ⟨0,0,FD,D,rfl,by omega,h.frame0 f1,hD,f1.mono (fun b hb=>by cases hb),.refl _ _,fun b hb=>.inl hb,rfl⟩ ?_
 rintro x w2 ⟨i,j,F',D',rfl,hi,hd2,hD2,f2,f12,n2,he⟩ X hX
 have hv2:=hv.frame f2 hg
 have hsz:=f1.size
 refine qaa (fun hc=>?_) (fun hc=>?_)
 ·have hil:i<pages.length:=by have:=of_decide_eq_true hc; dsimp only at this; omega
  have hib:i<bs.length:=by omega
  have his:i<sls.length:=by omega
  have hrs:Rds encS 1 FD w1 s1 sls:=q1.rds qql (fun b hb hm=>by have:=h.lt b hm; have:=n1 b hb; omega)
  have hrs2:Rds encS 1 FD w2 s1 sls:=hrs.frame f12 (fun b hb=>.inl hb)
  have hp2:Rd FD w2 sp pages:=hp.frame f2 (fun b hb=>.inl hb)
  refine Rds.get (c:=.slice) (y:=sls[i]) hrs2 i rfl (List.getElem?_eq_getElem his) rfl ?_
  refine Rd.at hp2 i rfl (List.getElem?_eq_getElem hil) ?_
  have hrow:RdB FD w1 sls[i] bs[i]:=(q3 i _ _ (List.getElem?_eq_getElem his) (List.getElem?_eq_getElem hib)).weak fun b hb=>.inl (List.mem_append_left _ hb)
  have hrow2:RdB FD w2 sls[i] bs[i]:=hrow.frame f12 (fun b hb=>.inl hb)
  have hb5:=(hbl.2 _ (List.getElem_mem hib)).1
  have hpx:=hpu _ (List.getElem_mem hil)
  refine qnb hrow2 hv2 (by omega) (fun h=>by omega) fun _ b3 T3 w3 c3 f3 n3=>?_
  refine Rd.at (hp2.frame0 f3) i rfl (List.getElem?_eq_getElem hil) ?_
  rw [wi' pages[i] (by omega)]
  have hsl3:=qct (number:=pages[i]) (kind:=2) hb5
  refine qop (S:=[]) (hd2.frame0 f3) hD2.ok (qdT (o:=0) (n:=512) c3 (by rw [hsl3]; exact Nat.le_refl _) (Nat.le_refl _) (by simp)) fun F4 w4 d4 f4 n4=>?_
  rw [List.drop_zero,List.take_of_length_le (by rw [hsl3]; exact Nat.le_refl _)] at d4 ⊢
  have hmem:∀ b∈F',b∈FD\/w.heap.size<=b:=fun b hb=>by
   rcases n2 b hb with h | h
   ·exact .inl h
   ·exact .inr (by omega)
  have hs3:w2.heap.size<=w3.heap.size:=f3.size
  have hs2:=f12.size
  have f04:Fr FD w w4:=(f2.trans' f3 (by simp)).trans' f4 hmem
  have f14:Fr FD w1 w4:=(f12.trans' f3 (by simp)).trans' f4 n2
  have nn4:∀ b∈F4,b∈FD\/w1.heap.size<=b:=fun b hb=>by
   rcases n4 b hb with h | h
   ·exact n2 b h
   ·exact .inr (by omega)
  rw [qiD hil hib (numbers:=numbers),List.map_cons,writesM] at he
  refine qaa (fun hc=>?_) (fun hc=>?_)
  ·have hc:(writeM D' pages[i] (sealV pages[i] 2 bs[i])).2≠0:=by simpa using hc
   have he2:andThen (writesM ((pages.zip bs).map fun x=>(x.1,sealV x.1 2 x.2)) D) syncM=writeM D' pages[i] (sealV pages[i] 2 bs[i]):=by
    rw [he]
    show andThen (andThen (writeM D' pages[i] (sealV pages[i] 2 bs[i])) _) syncM=_
    rw [show ∀ f,andThen (writeM D' pages[i] (sealV pages[i] 2 bs[i])) f=writeM D' pages[i] (sealV pages[i] 2 bs[i]) from fun f=>if_neg hc]
    exact if_neg hc
   rw [he2] at hk
   exact hk F4 w4 d4 f04 (fun b hb=>by
    rcases nn4 b hb with h | h
    ·exact .inl h
    ·exact .inr (by omega))
  ·have hc:(writeM D' pages[i] (sealV pages[i] 2 bs[i])).2=0:=by simpa using hc
   rw [wi' _ (by omega)]
   refine hX _ _ ⟨i+1,0,F4,(writeM D' pages[i] (sealV pages[i] 2 bs[i])).1,by simp,by omega,d4,?_,f04,f14,nn4,?_⟩ (by omega)
   ·have:=hD2.write (n:=pages[i]) (l:=sealV pages[i] 2 bs[i]) (by omega) (qcn (by decide) (hbl.2 _ (List.getElem_mem hib)).2)
    rw [Nat.add_assoc] at this
    exact this
   ·rw [he]
    show andThen (andThen (writeM D' pages[i] (sealV pages[i] 2 bs[i])) _) syncM=_
    rw [show ∀ f,andThen (writeM D' pages[i] (sealV pages[i] 2 bs[i])) f=f (writeM D' pages[i] (sealV pages[i] 2 bs[i])).1 from fun f=>if_pos hc]
 ·have:i=pages.length:=by have:=of_decide_eq_false hc; dsimp only at this; omega
  subst this
  have hd0:(pages.zip bs).drop pages.length=[]:=List.drop_eq_nil_of_le (ql1 _ _)
  rw [hd0] at he
  have he':andThen (writesM ((pages.zip bs).map fun x=>(x.1,sealV x.1 2 x.2)) D) syncM=syncM D':=he
  rw [he'] at hk
  refine qpc hd2 hD2.ok fun F3 w3 d3 f3 n3=>?_
  have hmem:∀ b∈F',b∈FD\/w.heap.size<=b:=fun b hb=>by
   rcases n2 b hb with h | h
   ·exact .inl h
   ·exact .inr (by omega)
  exact hk F3 w3 d3 (f2.trans' f3 hmem) fun b hb=>hmem b (n3 b hb)
section
structure DS (dbk:Nat) (w:World) (FD:List Nat) (w':World) (F':List Nat) (D':DiskM) (k:Nat):Prop where
 at_:DiskAt w' dbk F' D'
 lim:Lim D' k
 fr:Fr FD w w'
 nw:∀ b∈F',b∈FD\/w.heap.size<=b
variable {dbk:Nat}
theorem DS.refl {w:World} {FD:List Nat} {D:DiskM} {k:Nat} (h:DiskAt w dbk FD D) (hl:Lim D k):DS dbk w FD w FD D k:=⟨h,hl,.refl _ _,fun b hb=>.inl hb⟩
theorem DS.trans {w w1 w2:World} {FD F1 F2:List Nat} {D1 D2:DiskM} {k1 k2:Nat} (h:DS dbk w FD w1 F1 D1 k1) (g:DS dbk w1 F1 w2 F2 D2 k2):DS dbk w FD w2 F2 D2 k2:=
 ⟨g.at_,g.lim,h.fr.trans' g.fr h.nw,fun b hb=>by
  rcases g.nw b hb with h1 | h1
  ·exact h.nw b h1
  ·exact .inr (Nat.le_trans h.fr.size h1)⟩
theorem DS.frame0 {w w1 w2:World} {FD F1:List Nat} {D1:DiskM} {k1:Nat} (h:DS dbk w FD w1 F1 D1 k1) (f:Fr [] w1 w2):DS dbk w FD w2 F1 D1 k1:=
 ⟨h.at_.frame0 f,h.lim,h.fr.trans' f (by simp),h.nw⟩
theorem DS.hv {w w1:World} {FD F1:List Nat} {D1:DiskM} {k1:Nat} (h:DS dbk w FD w1 F1 D1 k1) (hv:Hv w) (hg:HG∉FD):Hv w1/\HG∉F1:=
 ⟨hv.frame h.fr hg,fun hm=>by
  rcases h.nw _ hm with h1 | h1
  ·exact hg h1
  ·have:=hv.lt; omega⟩
theorem DS.rd {w w1:World} {FD F1:List Nat} {D1:DiskM} {k1:Nat} {s:Sl} {l:List Int} (h:DS dbk w FD w1 F1 D1 k1) (hr:Rd FD w s l):Rd F1 w1 s l:=hr.frame h.fr h.nw
theorem DS.lims {w w1:World} {FD F1:List Nat} {D1:DiskM} {k1 k2:Nat} (h:DS dbk w FD w1 F1 D1 k1) (hk:k1<=k2):DS dbk w FD w1 F1 D1 k2:=⟨h.at_,h.lim.mono hk,h.fr,h.nw⟩
theorem qgD {w w1:World} {FD F1:List Nat} {D:DiskM} {k:Nat} {n:Int} {s:Sl} {l:List Int} {S:List Nat} {K:Int->World->Prop} (h:DS dbk w FD w1 F1 D k) (hk:k<1000000) (hs:RdB S w1 s l) (hB:IsB l)
  (kk:∀ w2 F2,DS dbk w FD w2 F2 (writeM D n l).1 (k+1)->Fr F1 w1 w2->(∀ b∈F2,b∈F1\/w1.heap.size<=b)->K (writeM D n l).2 w2) :
  call Tryz.prog 28 [.pointer (some ⟨dbk,0,none⟩),.int .i64 n,.slice s.a s.len s.cap] [.one (.int .i64)] w1 K:=by
 refine qop h.at_ h.lim.ok hs fun F2 w2 d2 f2 n2=>?_
 exact kk w2 F2 (h.trans ⟨d2,h.lim.write hk hB,f2,n2⟩) f2 n2
theorem qqg {w w1:World} {FD F1:List Nat} {D:DiskM} {k:Nat} {K:Int->World->Prop} (h:DS dbk w FD w1 F1 D k)
  (kk:∀ w2 F2,DS dbk w FD w2 F2 (syncM D).1 k->Fr F1 w1 w2->(∀ b∈F2,b∈F1\/w1.heap.size<=b)->K (syncM D).2 w2) :
  call Tryz.prog 87 [.pointer (some ⟨dbk,0,none⟩)] [.one (.int .i64)] w1 K:=by
 refine qpc h.at_ h.lim.ok fun F2 w2 d2 f2 n2=>?_
 exact kk w2 F2 (h.trans ⟨d2,h.lim.sync,f2,fun b hb=>.inl (n2 b hb)⟩) f2 (fun b hb=>.inl (n2 b hb))
theorem qpi {w w1:World} {FD F1:List Nat} {D:DiskM} {k:Nat} {s:Sup} {K:Int->World->Prop} (h:DS dbk w FD w1 F1 D k) (hk:k<1000000) (hv:Hv w1) (hs:s.2.length=27) (hq:0<=s.1)
  (kk:∀ w2 F2,DS dbk w FD w2 F2 (sealM D s).1 (k+1)->Fr F1 w1 w2->(∀ b∈F2,b∈F1\/w1.heap.size<=b)->K (sealM D s).2 w2) :
  call Tryz.prog 90 [.pointer (some ⟨dbk,0,none⟩),.agg (supV s.1 s.2).toArray] [.one (.int .i64)] w1 K:=by
 refine qoO (d:=some ⟨dbk,0,none⟩) (s:=supV s.1 s.2) ?_
 unfold qk6
 refine Own.new' (Own.start [] w1) fun r w2 e2 f2 ho=>?_
 have c0:(supV s.1 s.2).toArray[0]?=some (.int .u64 s.1):=rfl
 refine Own.ld (c:=.int .u64) ho.drew 0 rfl s.1 c0 ?_
 refine qbo (ho.drew.at (i:=0) rfl) hs ?_
 refine qtM (hv.frame0 ho.drew.fr) hs fun b T w3 c3 f3 n3=>?_
 have ho3:=ho.drew.frame0 f3
 refine qan (ho3.cell 0 rfl c0) ?_
 have ht:=Int.tmod_eq_emod_of_nonneg (b:=2) hq
 rw [wi' (Int.tmod s.1 2) (by omega)]
 have hlen:(sealV (IntKind.wrap .u32 (Int.tmod s.1 2)) 1 (superB s.1 s.2)).length=512:=qct (by rw [qbS hs]; decide)
 have hrd:RdB [] w3 ⟨some ⟨b,0,none⟩,512,512⟩ (superP s).2:=by
  have:=qdT (S:=[]) (o:=0) (n:=512) (cap:=512) c3 (by rw [hlen]; exact Nat.le_refl _) (Nat.le_refl _) (by simp)
  rw [List.drop_zero,List.take_of_length_le (Nat.le_of_eq hlen)] at this
  exact this
 show call Tryz.prog 28 [.pointer (some ⟨dbk,0,none⟩),.int .i64 (superP s).1,_] _ _ _
 refine qgD (h.frame0 ho3.fr) hk hrd (qmO s) fun w4 F4 d4 f4 n4=>?_
 have hsz:=ho3.fr.size
 refine qaa (fun hc=>?_) (fun hc=>?_)
 ·have hc:(writeM D (superP s).1 (superP s).2).2≠0:=by simpa using hc
  have e:sealM D s=writeM D (superP s).1 (superP s).2:=if_neg hc
  rw [e] at kk
  exact kk w4 F4 d4 ((ho3.fr.mono fun b hb=>by cases hb).trans f4) fun b hb=>by
   rcases n4 b hb with h | h
   ·exact .inl h
   ·exact .inr (by omega)
 ·have hc:(writeM D (superP s).1 (superP s).2).2=0:=by simpa using hc
  have e:sealM D s=syncM (writeM D (superP s).1 (superP s).2).1:=if_pos hc
  rw [e] at kk
  refine qqg d4 fun w5 F5 d5 f5 n5=>?_
  have g4:DS dbk w1 F1 w4 F4 (writeM D (superP s).1 (superP s).2).1 (k+1):=⟨d4.at_,d4.lim,(ho3.fr.mono (T:=F1) fun b hb=>by cases hb).trans f4,fun b hb=>by
   rcases n4 b hb with h | h
   ·exact .inl h
   ·exact .inr (by omega)⟩
  have g5:=g4.trans ⟨d5.at_,d5.lim,f5,n5⟩
  exact kk w5 F5 d5 g5.fr g5.nw
theorem ql5 {w w1:World} {FD F1:List Nat} {D:DiskM} {k:Nat} {sn sp:Sl} {numbers pages:List Int} {K:Int->World->Prop} (h:DS dbk w FD w1 F1 D k) (hk6:k+pages.length<=1000000) (hv:Hv w1) (hg:HG∉F1)
  (hn:Rd F1 w1 sn numbers) (hp:Rd F1 w1 sp pages) (hnl:numbers.length<=100000) (hpl:pages.length<=100000) (hpu:∀ x∈pages,U32 x)
  (kk:∀ w2 F2,DS dbk w FD w2 F2 (spreadM D numbers pages).1 (k+pages.length)->Fr F1 w1 w2->(∀ b∈F2,b∈F1\/w1.heap.size<=b)->K (spreadM D numbers pages).2 w2) :
  call Tryz.prog 89 [.pointer (some ⟨dbk,0,none⟩),.slice sn.a sn.len sn.cap,.slice sp.a sp.len sp.cap] [.one (.int .i64)] w1 K:=by
 refine qsd h.at_ h.lim hk6 hv hg hn hp hnl hpl hpu fun F2 w2 d2 f2 n2=>?_
 exact kk w2 F2 (h.trans ⟨d2,h.lim.spread hk6,f2,n2⟩) f2 n2
theorem qiF (a:DiskM×Int) (f g:DiskM->DiskM×Int):andThen (andThen a f) g=andThen a fun D=>andThen (f D) g:=by
 unfold andThen
 by_cases h:a.2=0
 ·rw [if_pos h,if_pos h]
 ·rw [if_neg h,if_neg h,if_neg h]
theorem qaK {a:DiskM×Int} {f:DiskM->DiskM×Int} (h:a.2≠0):andThen a f=a:=if_neg h
theorem qaV {a:DiskM×Int} {f:DiskM->DiskM×Int} (h:a.2=0):andThen a f=f a.1:=if_pos h
theorem qmu {a b c:Int} (w:World):(Instr.build 58 #[(0,.int .u64 1),(1,.int .u32 a),(2,.int .u32 b),(3,.int .u32 c)]).run Tryz.prog w=.ok (.agg (supV 1 ([a,b,c]++zs 24)).toArray) w:=by
 obtain ⟨z,hz,hzs⟩:=Option.map_eq_some_iff.1 qbg
 have hzc:z.cells=(supV 0 (zs 27)).toArray:=by rw [<- hzs]
 refine qa4 (parts:=[(0,.int .u64 1),(1,.int .u32 a),(2,.int .u32 b),(3,.int .u32 c)]) (offs:=#[(0,1),(1,1),(2,1),(3,1),(4,24)]) hz (by kernel_rfl) (fun w=>by kernel_rfl) ?_ w
 rw [hzc,qao (o:=0) (s:=1) rfl rfl (Nat.le_of_ble_eq_true rfl),qao (o:=1) (s:=1) rfl rfl (Nat.le_of_ble_eq_true rfl),qao (o:=2) (s:=1) rfl rfl (Nat.le_of_ble_eq_true rfl),qao (o:=3) (s:=1) rfl rfl (Nat.le_of_ble_eq_true rfl)]
 rfl
theorem qsi {w:World} {FD:List Nat} {D:DiskM} {k:Nat} {K:Int->World->Prop} (h:DiskAt w dbk FD D) (hl:Lim D k) (hk:k<=900000) (h8:2<=D.safe.length) (hv:Hv w) (hg:HG∉FD)
  (kk:∀ w' F',DS dbk w FD w' F' (formatM D).1 (k+5000)->K (formatM D).2 w') :
  call Tryz.prog 39 [.pointer (some ⟨dbk,0,none⟩)] [.one (.int .i64)] w K:=by
 refine qmT (d:=some ⟨dbk,0,none⟩) ?_
 unfold qiK
 have hsafe:=hl.ok.safe
 have h0:=DS.refl h hl
 have zlen:(zs 512).length=512:=qaC _
 have zrd:∀ {S0:List Nat} {w0 w':World} {L:List (Nat×Obj)} {b:Nat} {T:TypeId},Own S0 w0 w' ((b,.cells (List.replicate (512:Int).toNat (Value.int .u8 0)).toArray T (0,0))::L)->RdB [] w' ⟨some ⟨b,0,none⟩,(512:Int).toNat,(512:Int).toNat⟩ (zs 512):=fun ho=>by
  have hb:=ho.at (i:=0) rfl
  rw [qfI] at hb
  have:=qdT (S:=[]) (o:=0) (n:=512) (cap:=512) hb (by rw [show (512:Int).toNat=512 from rfl,zlen]; exact Nat.le_refl _) (Nat.le_refl _) (by simp)
  rw [List.drop_zero,List.take_of_length_le (by rw [show (512:Int).toNat=512 from rfl,zlen]; exact Nat.le_refl _)] at this
  exact this
 refine qeB fun X hX=>?_
 refine cond_true rfl ?_
 refine Own.mk1 (Own.start [] w) (by decide) (by decide) (by decide) (by decide) fun b1 w1 e1 ho1=>?_
 refine qgD (h0.frame0 ho1.fr) (by omega) (zrd ho1) (IsB.zs 512) fun w2 F2 d2 f2 n2=>?_
 refine qaa (fun hc=>?_) (fun hc=>?_)
 ·have hc:(writeM D 0 (zs 512)).2≠0:=by simpa using hc
  have e:formatM D=writeM D 0 (zs 512):=qaK hc
  rw [e] at kk
  exact kk w2 F2 (d2.lims (by omega))
 have hc1:(writeM D 0 (zs 512)).2=0:=by simpa using hc
 rw [formatM,qaV hc1] at kk
 have hD2:=qcE (D:=D) (n:=0) (l:=zs 512)
 generalize (writeM D 0 (zs 512)).1=D2 at d2 kk hD2
 rw [wi' (0+1) (by decide)]
 refine hX _ _ (qoc 1 rfl fun X hX=>?_)
 refine cond_true rfl ?_
 refine Own.mk1 (Own.start [] w2) (by decide) (by decide) (by decide) (by decide) fun b3 w3 e3 ho3=>?_
 refine qgD (d2.frame0 ho3.fr) (by omega) (zrd ho3) (IsB.zs 512) fun w4 F4 d4 f4 n4=>?_
 refine qaa (fun hc=>?_) (fun hc=>?_)
 ·have hc:(writeM D2 1 (zs 512)).2≠0:=by simpa using hc
  rw [qaK hc] at kk
  exact kk w4 F4 (d4.lims (by omega))
 have hc2:(writeM D2 1 (zs 512)).2=0:=by simpa using hc
 rw [qaV hc2] at kk
 have hD4:=qcE (D:=D2) (n:=1) (l:=zs 512)
 generalize (writeM D2 1 (zs 512)).1=D4 at d4 kk hD4
 rw [wi' (1+1) (by decide)]
 refine hX _ _ (qoc 2 rfl fun X hX=>?_)
 refine cond_false rfl ?_
 refine qqg d4 fun w5 F5 d5 f5 n5=>?_
 refine qaa (fun hc=>?_) (fun hc=>?_)
 ·have hc:(syncM D4).2≠0:=by simpa using hc
  rw [qaK hc] at kk
  exact kk w5 F5 (d5.lims (by omega))
 have hc3:(syncM D4).2=0:=by simpa using hc
 rw [qaV hc3] at kk
 have hD5:=qgF (D:=D4)
 generalize (syncM D4).1=D5 at d5 kk hD5
 have hn5:D5.safe.length=D.safe.length:=by omega
 have al:=qhS D.safe.length
 obtain ⟨hv5,hg5⟩:=d5.hv hv hg
 refine qag (fun x w'=>∃ (i:Nat) (B:List Nat),x.2=((i+2:Nat):Int)/\i<=D.safe.length-2/\BufU w' x.1 ((allV D.safe.length).take i) B/\Fr [] w5 w'/\∀ b∈B,w5.heap.size<=b) (fun x _=>((D.safe.length:Int)-x.2).toNat)
  ⟨0,[],rfl,by omega,.nil _ _ _,.refl _ _,by simp⟩ ?_
 rintro ⟨s,x⟩ w6 ⟨i,B,hx,hi,hb,f6,n6⟩ Y hY
 simp only at hx hb
 subst hx
 have d6:=d5.frame0 f6
 refine qkb d6.at_ ?_
 dsimp only
 refine qaa (fun hc=>?_) (fun hc=>?_)
 ·have hil:i<D.safe.length-2:=by have:=of_decide_eq_true hc; omega
  rw [qaL ((i+2:Nat):Int) (by omega)]
  refine qig hb (by rw [List.length_take]; omega) fun s7 B7 w7 b7 f7 n7=>?_
  rw [wi' _ (by omega)]
  refine hY _ _ ⟨i+1,B7,by simp; omega,by omega,?_,f6.trans' f7 (fun b hb=>.inr (n6 b hb)),fun b hb=>?_⟩ (by dsimp only; omega)
  ·have e:(allV D.safe.length).take (i+1)=(allV D.safe.length).take i++[((i+2:Nat):Int)]:=by
    rw [List.take_succ_eq_append_getElem (by omega)]
    congr 2
    have h1:=qnw hil
    have h2:=List.getElem?_eq_getElem (l:=allV D.safe.length) (i:=i) (by omega)
    rw [h2] at h1
    rw [Option.some.inj h1]
    simp
   rw [e]; exact b7
  ·rcases n7 b hb with h | h
   ·exact n6 b h
   ·exact Nat.le_trans f6.size h
 ·have hie:i=D.safe.length-2:=by have:=of_decide_eq_false hc; omega
  subst hie
  rw [List.take_of_length_le (by omega)] at hb
  have hsl:=hb.len
  rw [hsl]
  refine qpT (by omega) ?_
  have hnp:=qh6 (n:=(allV D.safe.length).length)
  have away:∀ b∈B,b∉F5:=fun b hb hm=>by have:=n6 b hb; have:=d5.at_.lt b hm; omega
  have rall:Rd F5 w6.drew s (allV D.safe.length):=(hb.frame0 (Fr.refl [] w6).drew).rds qau away
  refine Rds.part (k:=1) rall (needP (allV D.safe.length).length) (allV D.safe.length).length rfl (by show (s.len:Int)=_; omega) hnp (Nat.le_refl _) fun sn hsn rn _=>?_
  refine Rds.part (k:=1) rall 0 (needP (allV D.safe.length).length) rfl rfl (by omega) hnp fun sp hsp rp _=>?_
  rw [List.take_length] at rn
  rw [List.drop_zero] at rp
  have d6d:=d6.frame0 (Fr.refl [] w6).drew
  have hv6:=(hv5.frame0 f6).frame0 (Fr.refl [] w6).drew
  rw [hn5] at kk
  refine ql5 d6d (by rw [List.length_take]; omega) hv6 hg5 rn rp (by rw [List.length_drop]; omega) (by rw [List.length_take]; omega) (fun x hx=>by
   have:=qib.1 (List.mem_of_mem_take hx)
   constructor <;> omega) fun w7 F7 d7 f7 n7=>?_
  have d7:=d7.lims (k2:=k+2+4096) (by rw [List.length_take]; omega)
  refine qaa (fun hc=>?_) (fun hc=>?_)
  ·have hc:(spreadM D5 ((allV D.safe.length).drop (needP (allV D.safe.length).length)) ((allV D.safe.length).take (needP (allV D.safe.length).length))).2≠0:=by simpa using hc
   rw [qaK hc] at kk
   exact kk w7 F7 (d7.lims (by omega))
  have hc4:(spreadM D5 ((allV D.safe.length).drop (needP (allV D.safe.length).length)) ((allV D.safe.length).take (needP (allV D.safe.length).length))).2=0:=by simpa using hc
  rw [qaV hc4] at kk
  have hD7:=qgQ (D:=D5) (a:=(allV D.safe.length).drop (needP (allV D.safe.length).length)) (b:=(allV D.safe.length).take (needP (allV D.safe.length).length))
  generalize (spreadM D5 ((allV D.safe.length).drop (needP (allV D.safe.length).length)) ((allV D.safe.length).take (needP (allV D.safe.length).length))).1=D7 at d7 kk hD7
  have hn7:D7.safe.length=D.safe.length:=by omega
  refine qkb d7.at_ ?_
  rw [hn7] at kk ⊢
  have hfree:IntKind.wrap .i64 (((allV D.safe.length).length:Int)-(needP (allV D.safe.length).length:Int))=((allV D.safe.length).length:Int)-(needP (allV D.safe.length).length:Int):=wi' _ (by omega)
  rw [hfree]
  refine qax (ts:=[Ty1.raw]) (supV (fmtSup D.safe.length).1 (fmtSup D.safe.length).2) (qmu w7) ?_
  refine qpi (s:=fmtSup D.safe.length) d7 (by omega) (d7.hv hv hg).1 rfl (by show (0:Int)<=1; decide) fun w8 F8 d8 f8 n8=>?_
  exact kk w8 F8 (d8.lims (by omega))
end
section
structure PgM.Wf (M:PgM):Prop where
 n4:M.sup.2.getD 0 0<=4096
 u32:∀ x∈M.sup.2,U32 x
 roots:∀ x∈M.roots,U32 x
 namedS:M.named.Pairwise (· < ·)
 named:∀ x∈M.named,2<=x/\x<M.sup.2.getD 0 0
 freeS:M.free.Pairwise (· < ·)
 defS:M.deferred.Pairwise (· < ·)
 nodup:(M.free++(M.deferred++(M.lists++M.fresh.map (·.1)))).Nodup
 range:∀ x∈M.free++(M.deferred++(M.lists++M.fresh.map (·.1))),2<=x/\x<M.sup.2.getD 0 0
 body:∀ e∈M.fresh,(0<=e.2.1/\e.2.1<256)/\e.2.2.length<=500/\IsB e.2.2
theorem small {l:List Int} {n:Int} (hn:l.Nodup) (h:∀ x∈l,2<=x/\x<n) (h4:n<=4096):l.length<=4096:=by
 rcases qdl hn h with h | h
 ·omega
 ·rw [h]; simp
theorem PgM.Wf.all (M:PgM) (h:M.Wf):M.free.length+M.deferred.length+M.lists.length+M.fresh.length<=4096:=by
 have:=small h.nodup h.range h.n4
 simp only [List.length_append,List.length_map] at this
 omega
theorem PgM.Wf.named4 {M:PgM} (h:M.Wf):M.named.length<=4096:=small (qcg h.namedS) h.named h.n4
section
variable {w:World} {X:List Nat} {pb:Nat} {db:Option Addr} {F:List Nat} {M:PgM}
theorem Rds.part3 {α:Type} {enc:α->List Value} {k:Nat} {S:List Nat} {w:World} {s:Sl} {l:List α} (h:Rds enc k S w s l) {hi:Int} (b:Nat) {K:Sl->Prop} (hhi:hi=b) (hb:b<=l.length)
  (kk:∀ s',Rds enc k S w s' (l.take b)->K s'):slc s none (some hi) (some hi) k K:=by
 subst hhi
 obtain ⟨h1,h2,h3⟩:=h
 unfold slc
 refine ⟨by simp; omega,kk _ ?_⟩
 simp only [Option.getD_none,Option.getD_some,Int.toNat_zero,Int.toNat_natCast,Nat.zero_mul,Nat.sub_zero]
 have e:(if b=0 then s.a else s.a.map (·.add 0))=s.a:=by
  split
  ·rfl
  ·cases s.a with
   | none=>rfl
   | some a=>simp [qjL]
 rw [e]
 refine ⟨by rw [List.length_take]; dsimp only; omega,Nat.le_refl _,?_⟩
 rcases h3 with h3 | ⟨bl,o,cs,T,fr,ha,hbb,hS,hc⟩
 ·left; rw [h3]; simp
 ·refine .inr ⟨bl,o,cs,T,fr,ha,hbb,hS,fun i x hx=>?_⟩
  rw [List.getElem?_take] at hx
  split at hx
  ·exact hc i x hx
  ·cases hx
theorem qlq {S:List Nat} {w:World} {s:Sl} {l:List Int} {K:Sl->World->Prop} (h:Rd S w s l) (hl:l.length<=1000000)
  (hk:∀ s' B w',BufU w' s' l B->Fr [] w w'->(∀ b∈B,w.heap.size<=b)->K s' w'):call Tryz.prog 82 [.slice s.a s.len s.cap] [.one .slice] w K:=by
 obtain ⟨i31,hi,hz,hsz,hby⟩:=qjZ
 have hlen:=h.1
 refine qdu (s:=s) ?_
 unfold qcP
 refine qaa (fun hc=>?_) (fun hc=>?_)
 ·have hn:s.a=none:=by simpa using hc
  have:l=[]:=by
   rcases h.2.2 with h | ⟨b,o,cs,T,fr,ha,_⟩
   ·exact h
   ·rw [hn] at ha; cases ha
  subst this
  exact hk ⟨none,0,0⟩ [] w (.nil _ _ _) (.refl _ _) (by simp)
 ·refine Own.new' (Own.start [] w) fun tb w1 et f1 ho=>?_
  have hb0:BufU w1 ⟨some ⟨tb,0,none⟩,0,0⟩ [] [tb]:=.inr ⟨tb,0,_,_,rfl,rfl,rfl,ho.at (i:=0) rfl,rfl,Nat.le_refl _,by simp,by simp⟩
  refine qnq (s:=⟨some ⟨tb,0,none⟩,0,0⟩) (src:=s) hb0 (h.frame0 f1) (by simpa using hl) fun s' B' w' b' f' n'=>?_
  rw [List.nil_append] at b'
  refine hk s' B' w' b' (f1.trans' f' fun b hb=>by simp at hb; subst hb; exact .inr (by omega)) fun b hb=>?_
  rcases n' b hb with h | h
  ·simp at h; subst h; omega
  ·exact Nat.le_trans f1.size h
theorem qjI {K:Sl->World->Prop} (h:PagerAt w X pb db F M) (hl:M.lists.length<=1000000) (hk:∀ s B w',BufU w' s M.lists B->Fr [] w w'->(∀ b∈B,w.heap.size<=b)->K s w') :
  call Tryz.prog 32 [.pointer (some ⟨pb,0,none⟩)] [.one .slice] w K:=by
 obtain ⟨fb,defb,mb,sl,sn,F1,F2,fs,rfl,hx⟩:=h
 refine qin (p:=some ⟨pb,0,none⟩) ?_
 unfold qeE
 refine qab (qae (c:=.slice) hx.cell sl (qh4 hx.suplen) ?_)
 exact qlq hx.rows.lists hl hk
theorem qsm {K:Int->World->Prop} (h:PagerAt w X pb db F M) (hs:U32 (M.sup.2.getD 0 0)) (hk:K (M.sup.2.getD 0 0) w):call Tryz.prog 86 [.pointer (some ⟨pb,0,none⟩)] [.one (.int .i64)] w K:=by
 obtain ⟨fb,defb,mb,sl,sn,F1,F2,fs,rfl,hx⟩:=h
 refine qg3 (p:=some ⟨pb,0,none⟩) ?_
 unfold qdO
 refine qab (qae (c:=.int .u32) hx.cell (M.sup.2.getD 0 0) (qmv hx.suplen 0 (by decide)) ?_)
 rw [wi' _ (by omega)]
 exact hk
theorem PagerAt.xlt {w:World} {X:List Nat} {pb:Nat} {db:Option Addr} {F:List Nat} {M:PgM} (h:PagerAt w X pb db F M):∀ b∈X,b<w.heap.size:=by
 obtain ⟨fb,defb,mb,sl,sn,F1,F2,fs,rfl,hx⟩:=h
 exact hx.xlt
theorem qs3 {K:Unit->World->Prop} (h:PagerAt w X pb db F M) (ht:0<=M.turn/\M.turn<=1000000000) (hn:M.named.length<=100000)
  (hk:∀ F' w',PagerAt w' X pb db F' (begunM M.sup M.lists M.named (M.turn+1) M.over (insAll M.named))->Fr F w w'->(∀ b∈F',b∈F\/w.heap.size<=b)->K () w') :
  call Tryz.prog 68 [.pointer (some ⟨pb,0,none⟩)] [] w K:=by
 obtain ⟨fb,defb,mb,sl,sn,F1,F2,fs,rfl,hx⟩:=h
 refine qhQ (p:=some ⟨pb,0,none⟩) ?_
 unfold qeG
 have hw:∀ b∈X++[pb],b∈X++pb::mb::(F1++F2):=fun b hb=>by
  rcases List.mem_append.1 hb with h | h
  ·exact List.mem_append_left _ h
  ·simp at h; subst h; simp
 refine qgt (X:=X) (wk:=workV (some ⟨fb,0,none⟩) (some ⟨defb,0,none⟩) (some mb) M.roots) (by rw [qbw]; exact hx.cell) hx.suplen (qaB hx.rootlen) ht (fun b hb=>⟨hx.xlt b hb,fun e=>hx.xsep b hb (by rw [e]; simp)⟩) (hx.rows.lists.weak fun b hb=>.inl (hw b hb)) (hx.rows.named.weak fun b hb=>.inl (hw b hb)) hn fun F' w' hp f n=>?_
 exact hk F' w' hp (f.mono fun b hb _=>by simp at hb; subst hb; simp) fun b hb=>by
  rcases n b hb with h | h
  ·exact .inl (by rw [h]; simp)
  ·exact .inr h
theorem qud {K:Sl×Sl×Bool->World->Prop} (h:PagerAt w X pb db F M) (hW:M.Wf)
  (hno:planM M=none->∀ w',Fr [] w w'->K (⟨none,0,0⟩,⟨none,0,0⟩,false) w')
  (hk:∀ sp sn pages named w',planM M=some (pages,named)->Fr [] w w'->(∀ G:List Nat,(∀ b∈G,b<w.heap.size)->Rd G w' sp pages/\Rd G w' sn named)->K (sp,sn,true) w') :
  call Tryz.prog 56 [.pointer (some ⟨pb,0,none⟩)] [.one .slice,.one .slice,.one .bool] w K:=by
 have hall:=PgM.Wf.all M hW
 obtain ⟨fb,defb,mb,sl,sn,F1,F2,fs,rfl,hx⟩:=h
 refine qjd (p:=some ⟨pb,0,none⟩) ?_
 unfold qfd
 refine qab (qae (c:=.ptr) hx.cell (some ⟨fb,0,none⟩) (qd5 hx.suplen) ?_)
 refine qko hx.free (by omega) fun s1 w1 t1 f1=>?_
 obtain ⟨B1,b1,n1⟩:=qdV t1
 have f1d:Fr [] w w1.drew:=f1.drew
 have hx1:=hx.frame0 f1d
 refine qab (qae (w:=w1.drew) (c:=.ptr) hx1.cell (some ⟨defb,0,none⟩) (qjt hx.suplen) ?_)
 refine qab (qae (w:=w1.drew) (c:=.slice) hx1.cell sl (qh4 hx.suplen) ?_)
 refine qko hx1.deferred (by omega) fun s2 w2 t2 f2=>?_
 obtain ⟨B2,b2,n2⟩:=qdV t2
 have f02:=f1d.trans f2
 have hx2:=hx.frame0 f02
 refine qan (by rw [qaj hx2.cell]; exact qh4 hx.suplen) ?_
 refine qnq b2 hx2.rows.lists (by omega) fun s3 B3 w3 b3 f3 n3=>?_
 have hB1:∀ b∈B1,b<w1.drew.heap.size:=fun b hb=>(b1.frame0 (Fr.refl [] w1).drew).lt b hb
 have b12:=(b1.frame0 (Fr.refl [] w1).drew).frame0 f2
 have b13:BufU w3 s1 M.free B1:=b12.frame f3 (fun b hb hm=>by have:=hB1 b hb; have:=n2 b hm; omega)
 have hs1:w.heap.size<=w1.heap.size:=f1.size
 have hs2:=f2.size
 have hsd:w1.drew.heap.size=w1.heap.size:=rfl
 have n3':∀ b∈B3,w1.drew.heap.size<=b:=fun b hb=>by
  rcases n3 b hb with h | h
  ·exact n2 b h
  ·omega
 have f03:Fr [] w w3:=f02.trans' f3 fun b hb=>.inr (by have:=n2 b hb; omega)
 have l1:=b13.len
 have l3:=b3.len
 rw [List.length_append] at l3
 rw [wi' _ (by omega)]
 have e:(s1.len:Int)+(s3.len:Int)=((M.free.length+(M.deferred++M.lists).length:Nat):Int):=by rw [List.length_append]; omega
 rw [e]
 refine qpT (by rw [List.length_append]; omega) ?_
 generalize hkk:needP (M.free.length+(M.deferred++M.lists).length)=k
 refine qaa (fun hc=>?_) (fun hc=>?_)
 ·have:=of_decide_eq_true hc
  exact hno (by rw [planM,hkk,if_pos (by omega)]) w3 f03
 have hkl:k<=M.free.length:=by have:=of_decide_eq_false hc; omega
 have hplan:planM M=some (M.free.take k,insAll ((M.deferred++M.lists)++M.free.drop k)):=by rw [planM,hkk,if_neg (by omega)]
 have rfree:Rd [] w3 s1 M.free:=b13.rds qau (by simp)
 refine Rds.part (k:=1) rfree k M.free.length rfl (by show (s1.len:Int)=_; omega) hkl (Nat.le_refl _) fun s4 hs4 r4 _=>?_
 rw [List.take_length] at r4
 refine qnq b3 r4 (by rw [List.length_append,List.length_drop]; omega) fun s5 B5 w5 b5 f5 n5=>?_
 have n5':∀ b∈B5,w1.drew.heap.size<=b/\b∉B1:=fun b hb=>by
  have hh:w1.drew.heap.size<=b:=by
   rcases n5 b hb with h | h
   ·exact n3' b h
   ·have:=f3.size; omega
  exact ⟨hh,fun hm=>by have:=hB1 b hm; omega⟩
 have b15:BufU w5 s1 M.free B1:=b13.frame f5 (fun b hb hm=>by have:=hB1 b hb; have:=n3' b hm; omega)
 refine qpk b5 (by rw [List.length_append,List.length_append,List.length_drop]; omega) fun l6 w6 b6 p6 o6 f6=>?_
 have b16:BufU w6 s1 M.free B1:=b15.frame f6 (fun b hb hm=>(n5' b hm).2 hb)
 have hnd:((M.deferred++M.lists)++M.free.drop k).Nodup:=by
  have h:=hW.nodup
  have hp:(M.free++(M.deferred++(M.lists++M.fresh.map (·.1)))).Perm (((M.deferred++M.lists)++M.free)++M.fresh.map (·.1)):=by
   rw [<- List.append_assoc M.deferred,<- List.append_assoc M.free]
   exact List.perm_append_comm.append_right _
  have h2:=(hp.nodup_iff.1 h).sublist (List.sublist_append_left _ _)
  exact h2.sublist ((List.Sublist.refl _).append (List.drop_sublist _ _))
 have hl6:l6=insAll ((M.deferred++M.lists)++M.free.drop k):=qcC p6 o6 hnd
 rw [hl6] at b6
 have f06:Fr [] w w6:=(f03.trans' f5 fun b hb=>.inr (by have:=n3' b hb; omega)).trans' f6 fun b hb=>.inr (by have:=(n5' b hb).1; omega)
 have fin:∀ G:List Nat,(∀ b∈G,b<w.heap.size)->Rd G w6 s1 M.free/\Rd G w6 s5 (insAll ((M.deferred++M.lists)++M.free.drop k)):=fun G hG=>
  ⟨b16.rds qau fun b hb hm=>by have:=hG b hm; have:=n1 b hb; omega,b6.rds qau fun b hb hm=>by have:=hG b hm; have:=(n5' b hb).1; omega⟩
 refine Rds.part3 (fin (List.range w.heap.size) (by simp)).1 k rfl hkl fun s7 r7=>?_
 exact hk s7 s5 _ _ w6 hplan f06 fun G hG=>⟨r7.weak fun b hb=>.inl (List.mem_range.2 (hG b hb)),(fin G hG).2⟩
end
theorem qpb {w:World} {mb:Nat} {fs:List (Int×Leaf)} {n:Int} {K:Int×Sl->Prop} (h:MapAt u32V w mb (fs.map fun e=>(e.1,leafV e.2))) (hs:∀ q,look n fs=some q->K (q.2.1,q.2.2.1)) (hn:look n fs≠none) :
  runQ [Ty1.agg [Cell.int .u8,Cell.slice]] (fun w'=>(Instr.lookup MLT (.map (some mb)) (.int .u32 n) false).run Tryz.prog w') w K:=by
 have:=qfs (P:=Tryz.prog) qnA qvX qcA h n
 rw [qbT,qci] at this
 cases hl:look n fs with
 | none=>exact absurd hl hn
 | some q=>
  rw [hl] at this
  exact qax (ts:=[Ty1.agg [Cell.int .u8,Cell.slice]]) (q.2.1,q.2.2.1) this (hs q hl)
theorem qs2 {dbk k:Nat} {w w1:World} {FD F1:List Nat} {D:DiskM} {pb:Nat} {F:List Nat} {M:PgM} {sp sn:Sl} {pages named:List Int} {next:Sup} {K:Int->World->Prop} (h:DS dbk w FD w1 F1 D k) (hp:PagerAt w1 F1 pb (some ⟨dbk,0,none⟩) F M)
  (hbody:∀ e∈M.fresh,(0<=e.2.1/\e.2.1<256)/\e.2.2.length<=500/\IsB e.2.2) (hnd:(M.fresh.map (·.1)).Nodup) (hku:∀ x∈M.fresh.map (·.1),U32 x) (hfl:M.fresh.length<=100000) (hk6:k+M.fresh.length+pages.length+1<=1000000) (hv:Hv w1) (hg:HG∉F1)
  (hn:Rd F1 w1 sn named) (hps:Rd F1 w1 sp pages) (hnl:named.length<=100000) (hpl:pages.length<=100000) (hpu:∀ x∈pages,U32 x) (hs:next.2.length=27) (hq:0<=next.1)
  (kk:∀ w2 F2,DS dbk w FD w2 F2 (flushM D M.fresh pages named next).1 (k+M.fresh.length+pages.length+1)->Fr F1 w1 w2->(∀ b∈F2,b∈F1\/w1.heap.size<=b)->K (flushM D M.fresh pages named next).2 w2) :
  call Tryz.prog 57 [.pointer (some ⟨pb,0,none⟩),.slice sp.a sp.len sp.cap,.slice sn.a sn.len sn.cap,.agg (supV next.1 next.2).toArray] [.one (.int .i64)] w1 K:=by
 refine qhY (p:=some ⟨pb,0,none⟩) (pages:=sp) (named:=sn) (next:=supV next.1 next.2) ?_
 unfold qem
 refine Own.new' (Own.start [] w1) fun r w2 e2 f2 ho=>?_
 refine qnZ (hp.frame0 f2) hfl fun s3 B3 l3 w3 b3 p3 o3 f3 n3=>?_
 have hl3:l3=insAll (M.fresh.map (·.1)):=qcC p3 o3 hnd
 have hlen3:l3.length=M.fresh.length:=by have:=p3.length_eq; rw [List.length_map] at this; exact this
 have hmem3:∀ x∈l3,x∈M.fresh.map (·.1):=fun x hx=>p3.mem_iff.1 hx
 have f13:Fr [] w1 w3:=f2.trans f3
 have hW:freshW M.fresh=l3.map fun n=>(n,sealV n (leafOf M.fresh n).1 (leafOf M.fresh n).2):=by rw [freshW,<- hl3]
 have ho3:=ho.frame0 f3
 have hs3:=b3.len
 have hs12:=f2.size
 have hF1:∀ b∈F1,b<w1.heap.size:=h.at_.lt
 have r3:Rd F1 w3 s3 l3:=b3.rds qau fun b hb hm=>by have:=n3 b hb; have:=hF1 b hm; omega
 have hsup:w3.heap[r]?=some (.cells (supV next.1 next.2).toArray 58 (0,0)):=ho3.at (i:=0) rfl
 have hr:r∉F1:=fun hm=>by have:=hF1 r hm; omega
 rw [flushM,hW] at kk
 refine qag (fun x w'=>∃ (i:Nat) (F':List Nat) (D':DiskM),x=i/\i<=l3.length/\DS dbk w3 F1 w' F' D' (k+i)/\
   andThen (writesM (l3.map fun n=>(n,sealV n (leafOf M.fresh n).1 (leafOf M.fresh n).2)) D) (fun D=>andThen (spreadM D named pages) fun D=>sealM D next) =
    andThen (writesM ((l3.drop i).map fun n=>(n,sealV n (leafOf M.fresh n).1 (leafOf M.fresh n).2)) D') (fun D=>andThen (spreadM D named pages) fun D=>sealM D next)) (fun x _=>((l3.length:Int)-x).toNat)
  ⟨0,F1,D,rfl,by omega,DS.refl (h.at_.frame0 f13) h.lim,rfl⟩ ?_
 rintro x w4 ⟨i,F',D',rfl,hi,d4,he⟩ Y hY
 have hp4:PagerAt w4 F' pb (some ⟨dbk,0,none⟩) F M:=(hp.frame0 f13).frameX d4.fr d4.at_.lt d4.nw
 have hv4:=d4.hv (hv.frame0 f13) hg
 have away:∀ {w5:World} {F5:List Nat} {D5:DiskM} {k5:Nat},DS dbk w3 F1 w5 F5 D5 k5->DS dbk w FD w5 F5 D5 k5/\Fr F1 w1 w5/\∀ b∈F5,b∈F1\/w1.heap.size<=b:=fun d5=>by
  have g:DS dbk w1 F1 _ _ _ _:=(DS.refl h.at_ h.lim).frame0 f13 |>.trans d5
  exact ⟨h.trans g,g.fr,g.nw⟩
 refine qaa (fun hc=>?_) (fun hc=>?_)
 ·have hil:i<l3.length:=by have:=of_decide_eq_true hc; omega
  refine Rd.at (d4.rd r3) i rfl (List.getElem?_eq_getElem hil) ?_
  have hxm:=hmem3 _ (List.getElem_mem hil)
  have hxu:=hku _ hxm
  have hdrop:l3.drop i=l3[i]::l3.drop (i+1):=List.drop_eq_getElem_cons hil
  generalize l3[i]=x at hxm hxu hdrop
  obtain ⟨fb,defb,mb,sl,sm,G1,G2,fs,rfl,hx⟩:=hp4
  have hxd:=hx.frame0 (Fr.refl [] w4).drew
  have hlk:=hx.fresh_look x
  have hne:look x fs≠none:=fun hn=>by
   rw [hn] at hlk
   exact qcs.1 hlk hxm
  refine qab (qae (w:=w4.drew) (c:=.map) hxd.cell (some mb) (qbJ hx.suplen) ?_)
  refine qpb hxd.map.at (fun q hq1=>?_) hne
  refine qab (qae (w:=w4.drew) (c:=.map) hxd.cell (some mb) (qbJ hx.suplen) ?_)
  refine qpb hxd.map.at (fun q' hq2=>?_) hne
  rw [hq1] at hq2
  cases hq2
  rw [hq1] at hlk
  have hlf:leafOf M.fresh x=(q.2.1,q.2.2.2):=by rw [leafOf,hlk]; rfl
  have hm:=(qaI hq1).2
  have hrow:=hxd.rows.bodies _ hm
  have hbd:=hbody (x,q.2.1,q.2.2.2) (by rw [hx.fresh]; exact List.mem_map.2 ⟨_,hm,rfl⟩)
  dsimp only at hrow hbd
  refine qnb hrow (hv4.1.frame0 (Fr.refl [] w4).drew) (by omega) (fun h=>by omega) fun _ b5 T5 w5 c5 f5 n5=>?_
  have f45:Fr [] w4 w5:=(Fr.refl [] w4).drew.trans f5
  have hx5:=hx.frame0 f45
  refine qab (qae (c:=.ptr) hx5.cell (some ⟨dbk,0,none⟩) qsg ?_)
  rw [wi' x (by omega)]
  have hsl:=qct (number:=x) (kind:=q.2.1) hbd.2.1
  have hrd:RdB [] w5 ⟨some ⟨b5,0,none⟩,512,512⟩ (sealV x q.2.1 q.2.2.2):=by
   have:=qdT (S:=[]) (o:=0) (n:=512) (cap:=512) c5 (by rw [hsl]; exact Nat.le_refl _) (Nat.le_refl _) (by simp)
   rw [List.drop_zero,List.take_of_length_le (Nat.le_of_eq hsl)] at this
   exact this
  rw [hdrop,List.map_cons,hlf] at he
  refine qgD (d4.frame0 f45) (by omega) hrd (qcn hbd.1 hbd.2.2) fun w6 F6 d6 f6 n6=>?_
  refine qaa (fun hc=>?_) (fun hc=>?_)
  ·have hc:(writeM D' x (sealV x q.2.1 q.2.2.2)).2≠0:=by simpa using hc
   rw [writesM,qiF,qaK hc] at he
   rw [he] at kk
   have a6:=away d6
   exact kk w6 F6 (a6.1.lims (by omega)) a6.2.1 a6.2.2
  ·have hc:(writeM D' x (sealV x q.2.1 q.2.2.2)).2=0:=by simpa using hc
   rw [writesM,qiF,qaV hc] at he
   rw [wi' _ (by omega)]
   exact hY _ _ ⟨i+1,F6,_,by simp,by omega,d6,he⟩ (by omega)
 ·have:i=l3.length:=by have:=of_decide_eq_false hc; omega
  subst this
  rw [List.drop_length,List.map_nil,writesM,andThen_ok] at he
  rw [he] at kk
  obtain ⟨fb,defb,mb,sl,sm,G1,G2,fs,hF,hx⟩:=id hp4
  refine qab (qae (c:=.ptr) hx.cell (some ⟨dbk,0,none⟩) qsg ?_)
  have hn4:=d4.rd (hn.frame0 f13)
  have hps4:=d4.rd (hps.frame0 f13)
  refine ql5 d4 (by omega) hv4.1 hv4.2 hn4 hps4 hnl hpl hpu fun w5 F5 d5 f5 n5=>?_
  refine qaa (fun hc=>?_) (fun hc=>?_)
  ·have hc:(spreadM D' named pages).2≠0:=by simpa using hc
   rw [qaK hc] at kk
   have a5:=away d5
   exact kk w5 F5 (a5.1.lims (by omega)) a5.2.1 a5.2.2
  ·have hc:(spreadM D' named pages).2=0:=by simpa using hc
   rw [qaV hc] at kk
   have hp5:PagerAt w5 F5 pb (some ⟨dbk,0,none⟩) F M:=hp4.frameX f5 d5.at_.lt n5
   obtain ⟨fb,defb,mb,sl,sm,G1,G2,fs,hF,hx5⟩:=id hp5
   have hx6:=hx5.frame0 (Fr.refl [] w5).drew
   refine qab (qae (w:=w5.drew) (c:=.ptr) hx6.cell (some ⟨dbk,0,none⟩) qsg ?_)
   have hsup5:w5.drew.heap[r]?=some (.cells (supV next.1 next.2).toArray 58 (0,0)):=by
    show w5.heap[r]?=_
    rw [d5.fr.block r (qac hsup) hr]; exact hsup
   refine qbo hsup5 hs ?_
   refine qpi (d5.frame0 (Fr.refl [] w5).drew) (by omega) ((d5.hv (hv.frame0 f13) hg).1.frame0 (Fr.refl [] w5).drew) hs hq fun w6 F6 d6 f6 n6=>?_
   have a6:=away d6
   exact kk w6 F6 (a6.1.lims (by omega)) a6.2.1 a6.2.2
end
end Go.Proofs.YtmbcedengdoamaaGreatDoor
end
