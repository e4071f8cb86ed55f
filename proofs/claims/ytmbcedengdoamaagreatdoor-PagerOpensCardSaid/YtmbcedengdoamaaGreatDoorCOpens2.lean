/- Texts FormsS, SrtA, FormsP, PtM, HpA, HpB, PtN, PlA, PlB, PlC, PlD, SrtB, SrtC, SrtD, SrtE, SrtF, SrtG, SrtH, PlE, RfA, PlF, PgA, LwL, FormsF, PtQ, PgB, PgC, PgD, PtR, FlA: contracts of the program's functions, one behind the other. Conditions: those that stand in each line. -/
import Derived.Test.YtmbcedengdoamaaGreatDoorCOpens1
import Derived.Test.YtmbcedengdoamaaGreatDoorProg
import Derived.KernelRfl
import Derived.Sort.LotD6
import Derived.Sort.LotA
import Derived.MapKept
import Derived.Sort.LotC
import Derived.Sort.LotD1
import Derived.Laws.Bits64b
import Derived.Laws.Closers25b
import Derived.Sort.LotD2
import Derived.Sort.LotB
import Derived.Sort.LotD3
import Derived.Shelf.Bytes.SlCountOne
import Derived.Laws.CopyRow
import Derived.Laws.IdiomCopy
import Derived.Test.YtmbcedengdoamaaGreatDoorTie
import Derived.LaidMore
import Derived.MakeChecks
import Derived.OpenShut
import Derived.ProofKit
import Derived.Laws.Externs
section
set_option linter.unusedVariables false
set_option maxRecDepth 100000
namespace Go.Proofs.YtmbcedengdoamaaGreatDoor
open Go Go.Pt
def qey (x : Sl) (K : Unit -> World -> Prop) (w : World) : Prop := call Tryz.prog 125 ([.int .u64 (IntKind.wrap .u64 (↑x.len : Int))]) ([.one (.int .i64)]) w <| fun (x_1 : Int) w_2 => call Tryz.prog 124 ([.slice x.a x.len x.cap, .int .i64 0, .int .i64 (↑x.len : Int), .int .i64 x_1]) [] w_2 <| fun (x_3 : PUnit) w_4 => K () w_4
def qjA : List Ann := [.n]
theorem qhN {x : Sl} {w : World} {K : Unit -> World -> Prop} (hF : qey x K w) : call Tryz.prog 91 [.slice x.a x.len x.cap] [] w K := qab (an := qjA) Tryz.func91 (by kernel_rfl) ((show fnPt (std Tryz.prog) Tryz.prog Tryz.f91 qjA [] [.slice x.a x.len x.cap] K w = qey x K w by kernel_rfl).mpr hF)
def qa6 (data : Sl) (a : Int) (b : Int) (limit : Int) (K : Unit -> World -> Prop) (w : World) : Prop := loop (Int × Int × Int × Bool × Bool) (fun X_1 (t_2 : Int × Int × Int × Bool × Bool) w_3 => cond (decide (IntKind.wrap .i64 (t_2.snd.fst - t_2.fst) <= 12)) (call Tryz.prog 147 ([.slice data.a data.len data.cap, .int .i64 t_2.fst, .int .i64 t_2.snd.fst]) [] w_3 <| fun (x_4 : PUnit) w_5 => K () w_5) (cond (t_2.snd.snd.fst == 0) (call Tryz.prog 148 ([.slice data.a data.len data.cap, .int .i64 t_2.fst, .int .i64 t_2.snd.fst]) [] w_3 <| fun (x_6 : PUnit) w_7 => K () w_7) (join (Int) (fun X_8 => cond (!t_2.snd.snd.snd.fst) (call Tryz.prog 149 ([.slice data.a data.len data.cap, .int .i64 t_2.fst, .int .i64 t_2.snd.fst]) [] w_3 <| fun (x_9 : PUnit) w_10 => X_8 (IntKind.wrap .i64 (t_2.snd.snd.fst - 1)) w_10) (X_8 t_2.snd.snd.fst w_3)) <| fun (x_11 : Int) w_12 => call Tryz.prog 150 ([.slice data.a data.len data.cap, .int .i64 t_2.fst, .int .i64 t_2.snd.fst]) ([.one (.int .i64), .one (.int .i64)]) w_12 <| fun (t_13 : Int × Int) w_14 => join (Int × Int) (fun X_15 => cond (t_13.snd == 2) (call Tryz.prog 151 ([.slice data.a data.len data.cap, .int .i64 t_2.fst, .int .i64 t_2.snd.fst]) [] w_14 <| fun (x_16 : PUnit) w_17 => X_15 ((IntKind.wrap .i64 (IntKind.wrap .i64 (t_2.snd.fst - 1) - IntKind.wrap .i64 (t_13.fst - t_2.fst)), 1)) w_17) (X_15 t_13 w_14)) <| fun (t_18 : Int × Int) w_19 => join (PUnit) (fun X_20 => join (Bool) (fun X_21 => cond t_2.snd.snd.snd.fst (cond t_2.snd.snd.snd.snd (X_21 (t_18.snd == 1) w_19) (X_21 false w_19)) (X_21 false w_19)) <| fun (b_22 : Bool) w_23 => cond b_22 (call Tryz.prog 152 ([.slice data.a data.len data.cap, .int .i64 t_2.fst, .int .i64 t_2.snd.fst]) ([.one .bool]) w_23 <| fun (b_24 : Bool) w_25 => cond b_24 (K () w_25) (X_20 () w_25)) (X_20 () w_23)) <| fun (x_26 : PUnit) w_27 => join (Bool) (fun X_28 => cond (decide (t_2.fst > 0)) (idx data (IntKind.wrap .i64 (t_2.fst - 1)) 1 <| fun a_29 => ld (.int .u32) a_29 (World.drew w_27) <| fun (x_30 : Int) => idx data t_18.fst 1 <| fun a_31 => ld (.int .u32) a_31 (World.drew w_27) <| fun (x_32 : Int) => call Tryz.prog 153 ([.int .u32 x_30, .int .u32 x_32]) ([.one .bool]) (World.drew w_27) <| fun (b_33 : Bool) w_34 => X_28 (!b_33) w_34) (X_28 false (World.drew w_27))) <| fun (b_35 : Bool) w_36 => cond b_35 (call Tryz.prog 154 ([.slice data.a data.len data.cap, .int .i64 t_2.fst, .int .i64 t_2.snd.fst, .int .i64 t_18.fst]) ([.one (.int .i64)]) w_36 <| fun (x_37 : Int) w_38 => X_1 ((x_37, t_2.snd.fst, x_11, t_2.snd.snd.snd)) w_38) (call Tryz.prog 155 ([.slice data.a data.len data.cap, .int .i64 t_2.fst, .int .i64 t_2.snd.fst, .int .i64 t_18.fst]) ([.one (.int .i64), .one .bool]) w_36 <| fun (t_39 : Int × Bool) w_40 => cond (decide (IntKind.wrap .i64 (t_39.fst - t_2.fst) < IntKind.wrap .i64 (t_2.snd.fst - t_39.fst))) (call Tryz.prog 124 ([.slice data.a data.len data.cap, .int .i64 t_2.fst, .int .i64 t_39.fst, .int .i64 x_11]) [] w_40 <| fun (x_41 : PUnit) w_42 => X_1 ((IntKind.wrap .i64 (t_39.fst + 1), t_2.snd.fst, x_11, decide (IntKind.wrap .i64 (t_39.fst - t_2.fst) >= IntKind.wrap .i64 (Int.tdiv (IntKind.wrap .i64 (t_2.snd.fst - t_2.fst)) 8)), t_39.snd)) w_42) (call Tryz.prog 124 ([.slice data.a data.len data.cap, .int .i64 (IntKind.wrap .i64 (t_39.fst + 1)), .int .i64 t_2.snd.fst, .int .i64 x_11]) [] w_40 <| fun (x_43 : PUnit) w_44 => X_1 ((t_2.fst, t_39.fst, x_11, decide (IntKind.wrap .i64 (t_2.snd.fst - t_39.fst) >= IntKind.wrap .i64 (Int.tdiv (IntKind.wrap .i64 (t_2.snd.fst - t_2.fst)) 8)), t_39.snd)) w_44))))) ((a, b, limit, true, true)) w
def qdN : List Ann := [.n, .n, .l [(1, .one (.int .i64)), (2, .one (.int .i64)), (3, .one (.int .i64)), (8, .one .bool), (9, .one .bool)], .n, .n, .n, .n, .n, .n, .n, .j [(3, .one (.int .i64))], .n, .n, .n, .j [(11, .one (.int .i64)), (12, .one (.int .i64))], .n, .n, .n, .j [], .j [(68, .one .bool)], .n, .n, .j [(87, .one .bool)], .o [[0, 1, 2, 3, 4, 5, 6, 7, 8, 9, 10, 11, 12, 13, 14]], .n, .n, .n, .n, .n, .n, .n, .n, .n, .n, .n]
theorem qc2 {data : Sl} {a : Int} {b : Int} {limit : Int} {w : World} {K : Unit -> World -> Prop} (hF : qa6 data a b limit K w) : call Tryz.prog 124 [.slice data.a data.len data.cap, .int .i64 a, .int .i64 b, .int .i64 limit] [] w K := qab (an := qdN) Tryz.func124 (by kernel_rfl) ((show fnPt (std Tryz.prog) Tryz.prog Tryz.f124 qdN [] [.slice data.a data.len data.cap, .int .i64 a, .int .i64 b, .int .i64 limit] K w = qa6 data a b limit K w by kernel_rfl).mpr hF)
def qjy (x : Int) (K : Int -> World -> Prop) (w : World) : Prop := call Tryz.prog 157 ([.int .u64 x]) ([.one (.int .i64)]) w <| fun (x_1 : Int) w_2 => K x_1 w_2
def qm7 : List Ann := [.n, .n, .n, .n]
theorem qpm {x : Int} {w : World} {K : Int -> World -> Prop} (hF : qjy x K w) : call Tryz.prog 125 [.int .u64 x] [.one (.int .i64)] w K := qab (an := qm7) Tryz.func125 (by kernel_rfl) ((show fnPt (std Tryz.prog) Tryz.prog Tryz.f125 qm7 [.one (.int .i64)] [.int .u64 x] K w = qjy x K w by kernel_rfl).mpr hF)
def qaM (data : Sl) (a : Int) (b : Int) (K : Unit -> World -> Prop) (w : World) : Prop := loop (Int) (fun X_1 (x_2 : Int) w_3 => cond (decide (x_2 < b)) (loop (Int) (fun X_4 (x_5 : Int) w_6 => join (Bool) (fun X_7 => cond (decide (x_5 > a)) (idx data x_5 1 <| fun a_8 => ld (.int .u32) a_8 (World.drew w_6) <| fun (x_9 : Int) => idx data (IntKind.wrap .i64 (x_5 - 1)) 1 <| fun a_10 => ld (.int .u32) a_10 (World.drew w_6) <| fun (x_11 : Int) => call Tryz.prog 153 ([.int .u32 x_9, .int .u32 x_11]) ([.one .bool]) (World.drew w_6) <| fun (b_12 : Bool) w_13 => X_7 b_12 w_13) (X_7 false (World.drew w_6))) <| fun (b_14 : Bool) w_15 => cond b_14 (idx data (IntKind.wrap .i64 (x_5 - 1)) 1 <| fun a_16 => ld (.int .u32) a_16 (World.drew w_15) <| fun (x_17 : Int) => idx data x_5 1 <| fun a_18 => ld (.int .u32) a_18 (World.drew w_15) <| fun (x_19 : Int) => idx data x_5 1 <| fun a_20 => st a_20 ([.int .u32 x_17]) (World.drew w_15) <| fun w_21 => idx data (IntKind.wrap .i64 (x_5 - 1)) 1 <| fun a_22 => st a_22 ([.int .u32 x_19]) w_21 <| fun w_23 => X_4 (IntKind.wrap .i64 (x_5 - 1)) w_23) (X_1 (IntKind.wrap .i64 (x_2 + 1)) w_15)) x_2 w_3) (K () w_3)) (IntKind.wrap .i64 (a + 1)) w
def qb6 : List Ann := [.n, .l [(6, .one (.int .i64))], .n, .n, .n, .n, .l [(7, .one (.int .i64))], .n, .j [(30, .one .bool)], .o [[0, 1, 2, 3, 4, 5, 6, 7, 8, 9, 10, 11, 12, 13, 14]], .n, .o [[0, 1, 2, 3, 4, 5, 6, 7, 8, 9, 10, 11, 12, 13, 14, 15, 16, 17]]]
theorem qbN {data : Sl} {a : Int} {b : Int} {w : World} {K : Unit -> World -> Prop} (hF : qaM data a b K w) : call Tryz.prog 147 [.slice data.a data.len data.cap, .int .i64 a, .int .i64 b] [] w K := qab (an := qb6) Tryz.func147 (by kernel_rfl) ((show fnPt (std Tryz.prog) Tryz.prog Tryz.f147 qb6 [] [.slice data.a data.len data.cap, .int .i64 a, .int .i64 b] K w = qaM data a b K w by kernel_rfl).mpr hF)
def qbG (data : Sl) (a : Int) (b : Int) (K : Unit -> World -> Prop) (w : World) : Prop := loop (Int) (fun X_1 (x_2 : Int) w_3 => cond (decide (x_2 >= 0)) (call Tryz.prog 168 ([.slice data.a data.len data.cap, .int .i64 x_2, .int .i64 (IntKind.wrap .i64 (b - a)), .int .i64 a]) [] w_3 <| fun (x_4 : PUnit) w_5 => X_1 (IntKind.wrap .i64 (x_2 - 1)) w_5) (loop (Int) (fun X_6 (x_7 : Int) w_8 => cond (decide (x_7 >= 0)) (idx data (IntKind.wrap .i64 (a + x_7)) 1 <| fun a_9 => ld (.int .u32) a_9 (World.drew w_8) <| fun (x_10 : Int) => idx data a 1 <| fun a_11 => ld (.int .u32) a_11 (World.drew w_8) <| fun (x_12 : Int) => idx data a 1 <| fun a_13 => st a_13 ([.int .u32 x_10]) (World.drew w_8) <| fun w_14 => idx data (IntKind.wrap .i64 (a + x_7)) 1 <| fun a_15 => st a_15 ([.int .u32 x_12]) w_14 <| fun w_16 => call Tryz.prog 168 ([.slice data.a data.len data.cap, .int .i64 0, .int .i64 x_7, .int .i64 a]) [] w_16 <| fun (x_17 : PUnit) w_18 => X_6 (IntKind.wrap .i64 (x_7 - 1)) w_18) (K () w_8)) (IntKind.wrap .i64 (IntKind.wrap .i64 (b - a) - 1)) w_3)) (IntKind.wrap .i64 (Int.tdiv (IntKind.wrap .i64 (IntKind.wrap .i64 (b - a) - 1)) 2)) w
def qdA : List Ann := [.n, .n, .n, .n, .n, .l [(9, .one (.int .i64))], .n, .n, .n, .n, .l [(10, .one (.int .i64))], .n, .n, .n, .n, .o [[0, 1, 2, 3, 4, 5, 6, 7, 8, 9, 10, 11, 12, 13, 14, 15, 16, 17, 18, 19]]]
theorem qgj {data : Sl} {a : Int} {b : Int} {w : World} {K : Unit -> World -> Prop} (hF : qbG data a b K w) : call Tryz.prog 148 [.slice data.a data.len data.cap, .int .i64 a, .int .i64 b] [] w K := qab (an := qdA) Tryz.func148 (by kernel_rfl) ((show fnPt (std Tryz.prog) Tryz.prog Tryz.f148 qdA [] [.slice data.a data.len data.cap, .int .i64 a, .int .i64 b] K w = qbG data a b K w by kernel_rfl).mpr hF)
def qa1 (data : Sl) (a : Int) (b : Int) (K : Unit -> World -> Prop) (w : World) : Prop := cond (decide (IntKind.wrap .i64 (b - a) >= 8)) (new (Obj.cells #[.int .u64 0] 246) w <| fun r_1 w_2 => st ⟨r_1, 0, none⟩ ([.int .u64 (IntKind.wrap .u64 (IntKind.wrap .i64 (b - a)))]) w_2 <| fun w_3 => call Tryz.prog 169 ([.int .i64 (IntKind.wrap .i64 (b - a))]) ([.one (.int .u64)]) w_3 <| fun (x_4 : Int) w_5 => loop (Int) (fun X_6 (x_7 : Int) w_8 => cond (decide (x_7 <= IntKind.wrap .i64 (IntKind.wrap .i64 (a + IntKind.wrap .i64 (IntKind.wrap .i64 (Int.tdiv (IntKind.wrap .i64 (b - a)) 4) * 2)) + 1))) (call Tryz.prog 170 ([.pointer (some ⟨r_1, 0, none⟩)]) ([.one (.int .u64)]) w_8 <| fun (x_9 : Int) w_10 => join (Int) (fun X_11 => cond (decide (IntKind.wrap .i64 (bits BinOp.and IntKind.u64 x_9 (IntKind.wrap .u64 (x_4 - 1))) >= IntKind.wrap .i64 (b - a))) (X_11 (IntKind.wrap .i64 (IntKind.wrap .i64 (bits BinOp.and IntKind.u64 x_9 (IntKind.wrap .u64 (x_4 - 1))) - IntKind.wrap .i64 (b - a))) w_10) (X_11 (IntKind.wrap .i64 (bits BinOp.and IntKind.u64 x_9 (IntKind.wrap .u64 (x_4 - 1)))) w_10)) <| fun (x_12 : Int) w_13 => idx data (IntKind.wrap .i64 (a + x_12)) 1 <| fun a_14 => ld (.int .u32) a_14 (World.drew w_13) <| fun (x_15 : Int) => idx data x_7 1 <| fun a_16 => ld (.int .u32) a_16 (World.drew w_13) <| fun (x_17 : Int) => idx data x_7 1 <| fun a_18 => st a_18 ([.int .u32 x_15]) (World.drew w_13) <| fun w_19 => idx data (IntKind.wrap .i64 (a + x_12)) 1 <| fun a_20 => st a_20 ([.int .u32 x_17]) w_19 <| fun w_21 => X_6 (IntKind.wrap .i64 (x_7 + 1)) w_21) (K () w_8)) (IntKind.wrap .i64 (IntKind.wrap .i64 (a + IntKind.wrap .i64 (IntKind.wrap .i64 (Int.tdiv (IntKind.wrap .i64 (b - a)) 4) * 2)) - 1)) w_5) (K () w)
def qb9 : List Ann := [.n, .n, .n, .n, .n, .l [(9, .one (.int .i64))], .n, .n, .n, .n, .j [(10, .one (.int .i64))], .n, .o [[0, 1, 2, 3, 4, 5, 6, 7, 8, 9, 10, 11, 12, 13, 14, 15, 16, 17, 18, 19]]]
theorem qeD {data : Sl} {a : Int} {b : Int} {w : World} {K : Unit -> World -> Prop} (hF : qa1 data a b K w) : call Tryz.prog 149 [.slice data.a data.len data.cap, .int .i64 a, .int .i64 b] [] w K := qab (an := qb9) Tryz.func149 (by kernel_rfl) ((show fnPt (std Tryz.prog) Tryz.prog Tryz.f149 qb9 [] [.slice data.a data.len data.cap, .int .i64 a, .int .i64 b] K w = qa1 data a b K w by kernel_rfl).mpr hF)
def qbi (data : Sl) (a : Int) (b : Int) (K : (Int × Int) -> World -> Prop) (w : World) : Prop := new (Obj.cells #[.int .i64 0] 3) w <| fun r_1 w_2 => join (Int) (fun X_3 => cond (decide (IntKind.wrap .i64 (b - a) >= 8)) (join (Int × Int × Int) (fun X_4 => cond (decide (IntKind.wrap .i64 (b - a) >= 50)) (call Tryz.prog 171 ([.slice data.a data.len data.cap, .int .i64 (IntKind.wrap .i64 (a + IntKind.wrap .i64 (IntKind.wrap .i64 (Int.tdiv (IntKind.wrap .i64 (b - a)) 4) * 1))), .pointer (some ⟨r_1, 0, none⟩)]) ([.one (.int .i64)]) w_2 <| fun (x_5 : Int) w_6 => call Tryz.prog 171 ([.slice data.a data.len data.cap, .int .i64 (IntKind.wrap .i64 (a + IntKind.wrap .i64 (IntKind.wrap .i64 (Int.tdiv (IntKind.wrap .i64 (b - a)) 4) * 2))), .pointer (some ⟨r_1, 0, none⟩)]) ([.one (.int .i64)]) w_6 <| fun (x_7 : Int) w_8 => call Tryz.prog 171 ([.slice data.a data.len data.cap, .int .i64 (IntKind.wrap .i64 (a + IntKind.wrap .i64 (IntKind.wrap .i64 (Int.tdiv (IntKind.wrap .i64 (b - a)) 4) * 3))), .pointer (some ⟨r_1, 0, none⟩)]) ([.one (.int .i64)]) w_8 <| fun (x_9 : Int) w_10 => X_4 ((x_5, x_7, x_9)) w_10) (X_4 ((IntKind.wrap .i64 (a + IntKind.wrap .i64 (IntKind.wrap .i64 (Int.tdiv (IntKind.wrap .i64 (b - a)) 4) * 1)), IntKind.wrap .i64 (a + IntKind.wrap .i64 (IntKind.wrap .i64 (Int.tdiv (IntKind.wrap .i64 (b - a)) 4) * 2)), IntKind.wrap .i64 (a + IntKind.wrap .i64 (IntKind.wrap .i64 (Int.tdiv (IntKind.wrap .i64 (b - a)) 4) * 3)))) w_2)) <| fun (t_11 : Int × Int × Int) w_12 => call Tryz.prog 172 ([.slice data.a data.len data.cap, .int .i64 t_11.fst, .int .i64 t_11.snd.fst, .int .i64 t_11.snd.snd, .pointer (some ⟨r_1, 0, none⟩)]) ([.one (.int .i64)]) w_12 <| fun (x_13 : Int) w_14 => X_3 x_13 w_14) (X_3 (IntKind.wrap .i64 (a + IntKind.wrap .i64 (IntKind.wrap .i64 (Int.tdiv (IntKind.wrap .i64 (b - a)) 4) * 2))) w_2)) <| fun (x_15 : Int) w_16 => ld (.int .i64) ⟨r_1, 0, none⟩ w_16 <| fun (x_17 : Int) => cond (x_17 == 0) (K ((x_15, 1)) w_16) (cond (x_17 == 12) (K ((x_15, 2)) w_16) (K ((x_15, 0)) w_16))
def qcu : List Ann := [.n, .n, .n, .n, .n, .n, .j [(11, .one (.int .i64))], .n, .j [(10, .one (.int .i64)), (11, .one (.int .i64)), (12, .one (.int .i64))], .n, .n, .n, .n, .n, .n, .n, .n, .n]
theorem qe6 {data : Sl} {a : Int} {b : Int} {w : World} {K : (Int × Int) -> World -> Prop} (hF : qbi data a b K w) : call Tryz.prog 150 [.slice data.a data.len data.cap, .int .i64 a, .int .i64 b] [.one (.int .i64), .one (.int .i64)] w K := qab (an := qcu) Tryz.func150 (by kernel_rfl) ((show fnPt (std Tryz.prog) Tryz.prog Tryz.f150 qcu [.one (.int .i64), .one (.int .i64)] [.slice data.a data.len data.cap, .int .i64 a, .int .i64 b] K w = qbi data a b K w by kernel_rfl).mpr hF)
def qa7 (data : Sl) (a : Int) (b : Int) (K : Unit -> World -> Prop) (w : World) : Prop := loop (Int × Int) (fun X_1 (t_2 : Int × Int) w_3 => cond (decide (t_2.fst < t_2.snd)) (idx data t_2.snd 1 <| fun a_4 => ld (.int .u32) a_4 (World.drew w_3) <| fun (x_5 : Int) => idx data t_2.fst 1 <| fun a_6 => ld (.int .u32) a_6 (World.drew w_3) <| fun (x_7 : Int) => idx data t_2.fst 1 <| fun a_8 => st a_8 ([.int .u32 x_5]) (World.drew w_3) <| fun w_9 => idx data t_2.snd 1 <| fun a_10 => st a_10 ([.int .u32 x_7]) w_9 <| fun w_11 => X_1 ((IntKind.wrap .i64 (t_2.fst + 1), IntKind.wrap .i64 (t_2.snd - 1))) w_11) (K () w_3)) ((a, IntKind.wrap .i64 (b - 1))) w
def qce : List Ann := [.n, .n, .l [(6, .one (.int .i64)), (7, .one (.int .i64))], .n, .n, .n, .o [[0, 1, 2, 3, 4, 5, 6, 7, 8, 9, 10, 11, 12, 13, 14, 15]], .n]
theorem qeH {data : Sl} {a : Int} {b : Int} {w : World} {K : Unit -> World -> Prop} (hF : qa7 data a b K w) : call Tryz.prog 151 [.slice data.a data.len data.cap, .int .i64 a, .int .i64 b] [] w K := qab (an := qce) Tryz.func151 (by kernel_rfl) ((show fnPt (std Tryz.prog) Tryz.prog Tryz.f151 qce [] [.slice data.a data.len data.cap, .int .i64 a, .int .i64 b] K w = qa7 data a b K w by kernel_rfl).mpr hF)
def qaN (data : Sl) (a : Int) (b : Int) (K : Bool -> World -> Prop) (w : World) : Prop := loop (Int × Int) (fun X_1 (t_2 : Int × Int) w_3 => cond (decide (t_2.snd < 5)) (join (Int) (fun X_4 => loop (Int) (fun X_5 (x_6 : Int) w_7 => join (Bool) (fun X_8 => cond (decide (x_6 < b)) (idx data x_6 1 <| fun a_9 => ld (.int .u32) a_9 (World.drew w_7) <| fun (x_10 : Int) => idx data (IntKind.wrap .i64 (x_6 - 1)) 1 <| fun a_11 => ld (.int .u32) a_11 (World.drew w_7) <| fun (x_12 : Int) => call Tryz.prog 153 ([.int .u32 x_10, .int .u32 x_12]) ([.one .bool]) (World.drew w_7) <| fun (b_13 : Bool) w_14 => X_8 (!b_13) w_14) (X_8 false (World.drew w_7))) <| fun (b_15 : Bool) w_16 => cond b_15 (X_5 (IntKind.wrap .i64 (x_6 + 1)) w_16) (cond (x_6 == b) (K true w_16) (cond (decide (IntKind.wrap .i64 (b - a) < 50)) (K false w_16) (idx data (IntKind.wrap .i64 (x_6 - 1)) 1 <| fun a_17 => ld (.int .u32) a_17 (World.drew w_16) <| fun (x_18 : Int) => idx data x_6 1 <| fun a_19 => ld (.int .u32) a_19 (World.drew w_16) <| fun (x_20 : Int) => idx data x_6 1 <| fun a_21 => st a_21 ([.int .u32 x_18]) (World.drew w_16) <| fun w_22 => idx data (IntKind.wrap .i64 (x_6 - 1)) 1 <| fun a_23 => st a_23 ([.int .u32 x_20]) w_22 <| fun w_24 => join (PUnit) (fun X_25 => cond (decide (IntKind.wrap .i64 (x_6 - a) >= 2)) (loop (Int) (fun X_26 (x_27 : Int) w_28 => cond (decide (x_27 >= 1)) (idx data x_27 1 <| fun a_29 => ld (.int .u32) a_29 (World.drew w_28) <| fun (x_30 : Int) => idx data (IntKind.wrap .i64 (x_27 - 1)) 1 <| fun a_31 => ld (.int .u32) a_31 (World.drew w_28) <| fun (x_32 : Int) => call Tryz.prog 153 ([.int .u32 x_30, .int .u32 x_32]) ([.one .bool]) (World.drew w_28) <| fun (b_33 : Bool) w_34 => cond (!b_33) (X_25 () w_34) (idx data (IntKind.wrap .i64 (x_27 - 1)) 1 <| fun a_35 => ld (.int .u32) a_35 (World.drew w_34) <| fun (x_36 : Int) => idx data x_27 1 <| fun a_37 => ld (.int .u32) a_37 (World.drew w_34) <| fun (x_38 : Int) => idx data x_27 1 <| fun a_39 => st a_39 ([.int .u32 x_36]) (World.drew w_34) <| fun w_40 => idx data (IntKind.wrap .i64 (x_27 - 1)) 1 <| fun a_41 => st a_41 ([.int .u32 x_38]) w_40 <| fun w_42 => X_26 (IntKind.wrap .i64 (x_27 - 1)) w_42)) (X_25 () w_28)) (IntKind.wrap .i64 (x_6 - 1)) w_24) (X_25 () w_24)) <| fun (x_43 : PUnit) w_44 => cond (decide (IntKind.wrap .i64 (b - x_6) >= 2)) (loop (Int) (fun X_45 (x_46 : Int) w_47 => cond (decide (x_46 < b)) (idx data x_46 1 <| fun a_48 => ld (.int .u32) a_48 (World.drew w_47) <| fun (x_49 : Int) => idx data (IntKind.wrap .i64 (x_46 - 1)) 1 <| fun a_50 => ld (.int .u32) a_50 (World.drew w_47) <| fun (x_51 : Int) => call Tryz.prog 153 ([.int .u32 x_49, .int .u32 x_51]) ([.one .bool]) (World.drew w_47) <| fun (b_52 : Bool) w_53 => cond (!b_52) (X_4 x_6 w_53) (idx data (IntKind.wrap .i64 (x_46 - 1)) 1 <| fun a_54 => ld (.int .u32) a_54 (World.drew w_53) <| fun (x_55 : Int) => idx data x_46 1 <| fun a_56 => ld (.int .u32) a_56 (World.drew w_53) <| fun (x_57 : Int) => idx data x_46 1 <| fun a_58 => st a_58 ([.int .u32 x_55]) (World.drew w_53) <| fun w_59 => idx data (IntKind.wrap .i64 (x_46 - 1)) 1 <| fun a_60 => st a_60 ([.int .u32 x_57]) w_59 <| fun w_61 => X_45 (IntKind.wrap .i64 (x_46 + 1)) w_61)) (X_4 x_6 w_47)) (IntKind.wrap .i64 (x_6 + 1)) w_44) (X_4 x_6 w_44))))) t_2.fst w_3) <| fun (x_62 : Int) w_63 => X_1 ((x_62, IntKind.wrap .i64 (t_2.snd + 1))) w_63) (K false w_3)) ((IntKind.wrap .i64 (a + 1), 0)) w
def qbb : List Ann := [.n, .n, .n, .n, .l [(7, .one (.int .i64)), (8, .one (.int .i64))], .n, .n, .j [(7, .one (.int .i64))], .n, .l [(7, .one (.int .i64))], .n, .j [(32, .one .bool)], .o [[0, 1, 2, 3, 4, 5, 6, 7, 8, 9, 10, 11, 12, 13, 14, 15]], .n, .n, .n, .n, .n, .n, .n, .o [[0, 1, 2, 3, 4, 5, 6, 7, 8, 9, 10, 11, 12, 13, 14, 15, 16, 17]], .j [], .n, .n, .l [(9, .one (.int .i64))], .n, .n, .n, .n, .n, .o [[0, 1, 2, 3, 4, 5, 6, 7, 8, 9, 10]], .o [[0, 1, 2, 3, 4, 5, 6, 7, 8, 9, 10, 11, 12, 13, 14, 15, 16, 17]], .n, .n, .l [(10, .one (.int .i64))], .n, .n, .n, .n, .n, .o [[0, 1, 2, 3, 4, 5, 6, 7, 8, 9, 10]], .o [[0, 1, 2, 3, 4, 5, 6, 7, 8, 9, 10, 11, 12, 13, 14, 15, 16, 17]], .n]
theorem qcY {data : Sl} {a : Int} {b : Int} {w : World} {K : Bool -> World -> Prop} (hF : qaN data a b K w) : call Tryz.prog 152 [.slice data.a data.len data.cap, .int .i64 a, .int .i64 b] [.one .bool] w K := qab (an := qbb) Tryz.func152 (by kernel_rfl) ((show fnPt (std Tryz.prog) Tryz.prog Tryz.f152 qbb [.one .bool] [.slice data.a data.len data.cap, .int .i64 a, .int .i64 b] K w = qaN data a b K w by kernel_rfl).mpr hF)
def qju (x : Int) (y : Int) (K : Bool -> World -> Prop) (w : World) : Prop := call Tryz.prog 173 ([.int .u32 x]) ([.one .bool]) w <| fun (b_1 : Bool) w_2 => cond b_1 (call Tryz.prog 173 ([.int .u32 y]) ([.one .bool]) w_2 <| fun (b_3 : Bool) w_4 => cond (!b_3) (K true w_4) (K (decide (x < y)) w_4)) (K (decide (x < y)) w_2)
def qna : List Ann := [.n, .n]
theorem qps {x : Int} {y : Int} {w : World} {K : Bool -> World -> Prop} (hF : qju x y K w) : call Tryz.prog 153 [.int .u32 x, .int .u32 y] [.one .bool] w K := qab (an := qna) Tryz.func153 (by kernel_rfl) ((show fnPt (std Tryz.prog) Tryz.prog Tryz.f153 qna [.one .bool] [.int .u32 x, .int .u32 y] K w = qju x y K w by kernel_rfl).mpr hF)
def qaZ (data : Sl) (a : Int) (b : Int) (pivot : Int) (K : Int -> World -> Prop) (w : World) : Prop := idx data pivot 1 <| fun a_1 => ld (.int .u32) a_1 (World.drew w) <| fun (x_2 : Int) => idx data a 1 <| fun a_3 => ld (.int .u32) a_3 (World.drew w) <| fun (x_4 : Int) => idx data a 1 <| fun a_5 => st a_5 ([.int .u32 x_2]) (World.drew w) <| fun w_6 => idx data pivot 1 <| fun a_7 => st a_7 ([.int .u32 x_4]) w_6 <| fun w_8 => loop (Int × Int) (fun X_9 (t_10 : Int × Int) w_11 => loop (Int) (fun X_12 (x_13 : Int) w_14 => join (Bool) (fun X_15 => cond (decide (x_13 <= t_10.snd)) (idx data a 1 <| fun a_16 => ld (.int .u32) a_16 (World.drew w_14) <| fun (x_17 : Int) => idx data x_13 1 <| fun a_18 => ld (.int .u32) a_18 (World.drew w_14) <| fun (x_19 : Int) => call Tryz.prog 153 ([.int .u32 x_17, .int .u32 x_19]) ([.one .bool]) (World.drew w_14) <| fun (b_20 : Bool) w_21 => X_15 (!b_20) w_21) (X_15 false (World.drew w_14))) <| fun (b_22 : Bool) w_23 => cond b_22 (X_12 (IntKind.wrap .i64 (x_13 + 1)) w_23) (loop (Int) (fun X_24 (x_25 : Int) w_26 => join (Bool) (fun X_27 => cond (decide (x_13 <= x_25)) (idx data a 1 <| fun a_28 => ld (.int .u32) a_28 (World.drew w_26) <| fun (x_29 : Int) => idx data x_25 1 <| fun a_30 => ld (.int .u32) a_30 (World.drew w_26) <| fun (x_31 : Int) => call Tryz.prog 153 ([.int .u32 x_29, .int .u32 x_31]) ([.one .bool]) (World.drew w_26) <| fun (b_32 : Bool) w_33 => X_27 b_32 w_33) (X_27 false (World.drew w_26))) <| fun (b_34 : Bool) w_35 => cond b_34 (X_24 (IntKind.wrap .i64 (x_25 - 1)) w_35) (cond (decide (x_13 > x_25)) (K x_13 w_35) (idx data x_25 1 <| fun a_36 => ld (.int .u32) a_36 (World.drew w_35) <| fun (x_37 : Int) => idx data x_13 1 <| fun a_38 => ld (.int .u32) a_38 (World.drew w_35) <| fun (x_39 : Int) => idx data x_13 1 <| fun a_40 => st a_40 ([.int .u32 x_37]) (World.drew w_35) <| fun w_41 => idx data x_25 1 <| fun a_42 => st a_42 ([.int .u32 x_39]) w_41 <| fun w_43 => X_9 ((IntKind.wrap .i64 (x_13 + 1), IntKind.wrap .i64 (x_25 - 1))) w_43))) t_10.snd w_23)) t_10.fst w_11) ((IntKind.wrap .i64 (a + 1), IntKind.wrap .i64 (b - 1))) w_8
def qbV : List Ann := [.n, .n, .o [[0, 1, 2, 3, 4, 5, 6, 7, 8, 9, 10, 11, 12, 13, 14, 15]], .n, .n, .l [(9, .one (.int .i64)), (10, .one (.int .i64))], .n, .l [(9, .one (.int .i64))], .n, .j [(43, .one .bool)], .o [[0, 1, 2, 3, 4, 5, 6, 7, 8, 9, 10, 11, 12, 13, 14]], .n, .l [(10, .one (.int .i64))], .n, .j [(59, .one .bool)], .o [[0, 1, 2, 3, 4, 5, 6, 7, 8, 9, 10, 11, 12, 13]], .n, .n, .n, .o [[0, 1, 2, 3, 4, 5, 6, 7, 8, 9, 10, 11, 12, 13, 14, 15]], .n, .n]
theorem qed {data : Sl} {a : Int} {b : Int} {pivot : Int} {w : World} {K : Int -> World -> Prop} (hF : qaZ data a b pivot K w) : call Tryz.prog 154 [.slice data.a data.len data.cap, .int .i64 a, .int .i64 b, .int .i64 pivot] [.one (.int .i64)] w K := qab (an := qbV) Tryz.func154 (by kernel_rfl) ((show fnPt (std Tryz.prog) Tryz.prog Tryz.f154 qbV [.one (.int .i64)] [.slice data.a data.len data.cap, .int .i64 a, .int .i64 b, .int .i64 pivot] K w = qaZ data a b pivot K w by kernel_rfl).mpr hF)
def qbz (data : Sl) (a : Int) (b : Int) (pivot : Int) (K : (Int × Bool) -> World -> Prop) (w : World) : Prop := idx data pivot 1 <| fun a_1 => ld (.int .u32) a_1 (World.drew w) <| fun (x_2 : Int) => idx data a 1 <| fun a_3 => ld (.int .u32) a_3 (World.drew w) <| fun (x_4 : Int) => idx data a 1 <| fun a_5 => st a_5 ([.int .u32 x_2]) (World.drew w) <| fun w_6 => idx data pivot 1 <| fun a_7 => st a_7 ([.int .u32 x_4]) w_6 <| fun w_8 => loop (Int) (fun X_9 (x_10 : Int) w_11 => join (Bool) (fun X_12 => cond (decide (x_10 <= IntKind.wrap .i64 (b - 1))) (idx data x_10 1 <| fun a_13 => ld (.int .u32) a_13 (World.drew w_11) <| fun (x_14 : Int) => idx data a 1 <| fun a_15 => ld (.int .u32) a_15 (World.drew w_11) <| fun (x_16 : Int) => call Tryz.prog 153 ([.int .u32 x_14, .int .u32 x_16]) ([.one .bool]) (World.drew w_11) <| fun (b_17 : Bool) w_18 => X_12 b_17 w_18) (X_12 false (World.drew w_11))) <| fun (b_19 : Bool) w_20 => cond b_19 (X_9 (IntKind.wrap .i64 (x_10 + 1)) w_20) (loop (Int) (fun X_21 (x_22 : Int) w_23 => join (Bool) (fun X_24 => cond (decide (x_10 <= x_22)) (idx data x_22 1 <| fun a_25 => ld (.int .u32) a_25 (World.drew w_23) <| fun (x_26 : Int) => idx data a 1 <| fun a_27 => ld (.int .u32) a_27 (World.drew w_23) <| fun (x_28 : Int) => call Tryz.prog 153 ([.int .u32 x_26, .int .u32 x_28]) ([.one .bool]) (World.drew w_23) <| fun (b_29 : Bool) w_30 => X_24 (!b_29) w_30) (X_24 false (World.drew w_23))) <| fun (b_31 : Bool) w_32 => cond b_31 (X_21 (IntKind.wrap .i64 (x_22 - 1)) w_32) (cond (decide (x_10 > x_22)) (idx data a 1 <| fun a_33 => ld (.int .u32) a_33 (World.drew w_32) <| fun (x_34 : Int) => idx data x_22 1 <| fun a_35 => ld (.int .u32) a_35 (World.drew w_32) <| fun (x_36 : Int) => idx data x_22 1 <| fun a_37 => st a_37 ([.int .u32 x_34]) (World.drew w_32) <| fun w_38 => idx data a 1 <| fun a_39 => st a_39 ([.int .u32 x_36]) w_38 <| fun w_40 => K ((x_22, true)) w_40) (idx data x_22 1 <| fun a_41 => ld (.int .u32) a_41 (World.drew w_32) <| fun (x_42 : Int) => idx data x_10 1 <| fun a_43 => ld (.int .u32) a_43 (World.drew w_32) <| fun (x_44 : Int) => idx data x_10 1 <| fun a_45 => st a_45 ([.int .u32 x_42]) (World.drew w_32) <| fun w_46 => idx data x_22 1 <| fun a_47 => st a_47 ([.int .u32 x_44]) w_46 <| fun w_48 => loop (Int × Int) (fun X_49 (t_50 : Int × Int) w_51 => loop (Int) (fun X_52 (x_53 : Int) w_54 => join (Bool) (fun X_55 => cond (decide (x_53 <= t_50.snd)) (idx data x_53 1 <| fun a_56 => ld (.int .u32) a_56 (World.drew w_54) <| fun (x_57 : Int) => idx data a 1 <| fun a_58 => ld (.int .u32) a_58 (World.drew w_54) <| fun (x_59 : Int) => call Tryz.prog 153 ([.int .u32 x_57, .int .u32 x_59]) ([.one .bool]) (World.drew w_54) <| fun (b_60 : Bool) w_61 => X_55 b_60 w_61) (X_55 false (World.drew w_54))) <| fun (b_62 : Bool) w_63 => cond b_62 (X_52 (IntKind.wrap .i64 (x_53 + 1)) w_63) (loop (Int) (fun X_64 (x_65 : Int) w_66 => join (Bool) (fun X_67 => cond (decide (x_53 <= x_65)) (idx data x_65 1 <| fun a_68 => ld (.int .u32) a_68 (World.drew w_66) <| fun (x_69 : Int) => idx data a 1 <| fun a_70 => ld (.int .u32) a_70 (World.drew w_66) <| fun (x_71 : Int) => call Tryz.prog 153 ([.int .u32 x_69, .int .u32 x_71]) ([.one .bool]) (World.drew w_66) <| fun (b_72 : Bool) w_73 => X_67 (!b_72) w_73) (X_67 false (World.drew w_66))) <| fun (b_74 : Bool) w_75 => cond b_74 (X_64 (IntKind.wrap .i64 (x_65 - 1)) w_75) (cond (decide (x_53 > x_65)) (idx data a 1 <| fun a_76 => ld (.int .u32) a_76 (World.drew w_75) <| fun (x_77 : Int) => idx data x_65 1 <| fun a_78 => ld (.int .u32) a_78 (World.drew w_75) <| fun (x_79 : Int) => idx data x_65 1 <| fun a_80 => st a_80 ([.int .u32 x_77]) (World.drew w_75) <| fun w_81 => idx data a 1 <| fun a_82 => st a_82 ([.int .u32 x_79]) w_81 <| fun w_83 => K ((x_65, false)) w_83) (idx data x_65 1 <| fun a_84 => ld (.int .u32) a_84 (World.drew w_75) <| fun (x_85 : Int) => idx data x_53 1 <| fun a_86 => ld (.int .u32) a_86 (World.drew w_75) <| fun (x_87 : Int) => idx data x_53 1 <| fun a_88 => st a_88 ([.int .u32 x_85]) (World.drew w_75) <| fun w_89 => idx data x_65 1 <| fun a_90 => st a_90 ([.int .u32 x_87]) w_89 <| fun w_91 => X_49 ((IntKind.wrap .i64 (x_53 + 1), IntKind.wrap .i64 (x_65 - 1))) w_91))) t_50.snd w_63)) t_50.fst w_51) ((IntKind.wrap .i64 (x_10 + 1), IntKind.wrap .i64 (x_22 - 1))) w_48))) (IntKind.wrap .i64 (b - 1)) w_20)) (IntKind.wrap .i64 (a + 1)) w_8
def qdq : List Ann := [.n, .n, .o [[0, 1, 2, 3, 4, 5, 6, 7, 8, 9, 10, 11, 12, 13, 14, 15]], .n, .n, .l [(10, .one (.int .i64))], .n, .j [(43, .one .bool)], .o [[0, 1, 2, 3, 4, 5, 6, 7, 8, 9, 10, 11, 12, 13]], .n, .l [(11, .one (.int .i64))], .n, .j [(60, .one .bool)], .o [[0, 1, 2, 3, 4, 5, 6, 7, 8, 9, 10, 11, 12, 13, 14]], .n, .n, .n, .o [[0, 1, 2, 3, 4, 5, 6, 7, 8, 9, 10, 11, 12, 13, 14, 15]], .n, .n, .o [[0, 1, 2, 3, 4, 5, 6, 7, 8, 9, 10, 11, 12, 13, 14, 15]], .n, .n, .n, .l [(10, .one (.int .i64)), (11, .one (.int .i64))], .n, .l [(10, .one (.int .i64))], .n, .j [(112, .one .bool)], .o [[0, 1, 2, 3, 4, 5, 6, 7, 8, 9, 10, 11, 12, 13]], .n, .l [(11, .one (.int .i64))], .n, .j [(129, .one .bool)], .o [[0, 1, 2, 3, 4, 5, 6, 7, 8, 9, 10, 11, 12, 13, 14]], .n, .n, .n, .o [[0, 1, 2, 3, 4, 5, 6, 7, 8, 9, 10, 11, 12, 13, 14, 15]], .n, .n, .o [[0, 1, 2, 3, 4, 5, 6, 7, 8, 9, 10, 11, 12, 13, 14, 15]], .n]
theorem qfU {data : Sl} {a : Int} {b : Int} {pivot : Int} {w : World} {K : (Int × Bool) -> World -> Prop} (hF : qbz data a b pivot K w) : call Tryz.prog 155 [.slice data.a data.len data.cap, .int .i64 a, .int .i64 b, .int .i64 pivot] [.one (.int .i64), .one .bool] w K := qab (an := qdq) Tryz.func155 (by kernel_rfl) ((show fnPt (std Tryz.prog) Tryz.prog Tryz.f155 qdq [.one (.int .i64), .one .bool] [.slice data.a data.len data.cap, .int .i64 a, .int .i64 b, .int .i64 pivot] K w = qbz data a b pivot K w by kernel_rfl).mpr hF)
def qhv (x : Int) (K : Int -> World -> Prop) (w : World) : Prop := join (Int × Int) (fun X_1 => cond (decide (x >= 4294967296)) (X_1 ((Int.fdiv x (2 ^ 32), 32)) w) (X_1 ((x, 0)) w)) <| fun (t_2 : Int × Int) w_3 => join (Int × Int) (fun X_4 => cond (decide (t_2.fst >= 65536)) (X_4 ((Int.fdiv t_2.fst (2 ^ 16), IntKind.wrap .i64 (t_2.snd + 16))) w_3) (X_4 t_2 w_3)) <| fun (t_5 : Int × Int) w_6 => join (Int × Int) (fun X_7 => cond (decide (t_5.fst >= 256)) (X_7 ((Int.fdiv t_5.fst (2 ^ 8), IntKind.wrap .i64 (t_5.snd + 8))) w_6) (X_7 t_5 w_6)) <| fun (t_8 : Int × Int) w_9 => idxS ({ data := List.toArray (List.append (List.append [0, 1, 2, 2, 3, 3, 3, 3, 4, 4, 4, 4, 4, 4, 4, 4, 5, 5, 5, 5, 5, 5, 5, 5, 5, 5, 5, 5, 5, 5, 5, 5, 6, 6, 6, 6, 6, 6, 6, 6, 6, 6, 6, 6, 6, 6, 6, 6, 6, 6, 6, 6, 6, 6, 6, 6, 6, 6, 6, 6, 6, 6, 6, 6] [7, 7, 7, 7, 7, 7, 7, 7, 7, 7, 7, 7, 7, 7, 7, 7, 7, 7, 7, 7, 7, 7, 7, 7, 7, 7, 7, 7, 7, 7, 7, 7, 7, 7, 7, 7, 7, 7, 7, 7, 7, 7, 7, 7, 7, 7, 7, 7, 7, 7, 7, 7, 7, 7, 7, 7, 7, 7, 7, 7, 7, 7, 7, 7]) (List.append [8, 8, 8, 8, 8, 8, 8, 8, 8, 8, 8, 8, 8, 8, 8, 8, 8, 8, 8, 8, 8, 8, 8, 8, 8, 8, 8, 8, 8, 8, 8, 8, 8, 8, 8, 8, 8, 8, 8, 8, 8, 8, 8, 8, 8, 8, 8, 8, 8, 8, 8, 8, 8, 8, 8, 8, 8, 8, 8, 8, 8, 8, 8, 8] [8, 8, 8, 8, 8, 8, 8, 8, 8, 8, 8, 8, 8, 8, 8, 8, 8, 8, 8, 8, 8, 8, 8, 8, 8, 8, 8, 8, 8, 8, 8, 8, 8, 8, 8, 8, 8, 8, 8, 8, 8, 8, 8, 8, 8, 8, 8, 8, 8, 8, 8, 8, 8, 8, 8, 8, 8, 8, 8, 8, 8, 8, 8, 8])) }) (IntKind.wrap .u8 t_8.fst) <| fun (x_10 : Int) => K (IntKind.wrap .i64 (t_8.snd + IntKind.wrap .i64 x_10)) w_9
def qkT : List Ann := [.n, .j [(0, .one (.int .u64)), (2, .one (.int .i64))], .n, .n, .j [(0, .one (.int .u64)), (2, .one (.int .i64))], .n, .n, .j [(0, .one (.int .u64)), (2, .one (.int .i64))], .n, .n, .n]
theorem qnD {x : Int} {w : World} {K : Int -> World -> Prop} (hF : qhv x K w) : call Tryz.prog 157 [.int .u64 x] [.one (.int .i64)] w K := qab (an := qkT) Tryz.func157 (by kernel_rfl) ((show fnPt (std Tryz.prog) Tryz.prog Tryz.f157 qkT [.one (.int .i64)] [.int .u64 x] K w = qhv x K w by kernel_rfl).mpr hF)
def qbI (data : Sl) (lo : Int) (hi : Int) (first : Int) (K : Unit -> World -> Prop) (w : World) : Prop := loop (Int) (fun X_1 (x_2 : Int) w_3 => cond (decide (IntKind.wrap .i64 (IntKind.wrap .i64 (2 * x_2) + 1) >= hi)) (K () w_3) (join (Int) (fun X_4 => join (Bool) (fun X_5 => cond (decide (IntKind.wrap .i64 (IntKind.wrap .i64 (IntKind.wrap .i64 (2 * x_2) + 1) + 1) < hi)) (idx data (IntKind.wrap .i64 (first + IntKind.wrap .i64 (IntKind.wrap .i64 (2 * x_2) + 1))) 1 <| fun a_6 => ld (.int .u32) a_6 (World.drew w_3) <| fun (x_7 : Int) => idx data (IntKind.wrap .i64 (IntKind.wrap .i64 (first + IntKind.wrap .i64 (IntKind.wrap .i64 (2 * x_2) + 1)) + 1)) 1 <| fun a_8 => ld (.int .u32) a_8 (World.drew w_3) <| fun (x_9 : Int) => call Tryz.prog 153 ([.int .u32 x_7, .int .u32 x_9]) ([.one .bool]) (World.drew w_3) <| fun (b_10 : Bool) w_11 => X_5 b_10 w_11) (X_5 false (World.drew w_3))) <| fun (b_12 : Bool) w_13 => cond b_12 (X_4 (IntKind.wrap .i64 (IntKind.wrap .i64 (IntKind.wrap .i64 (2 * x_2) + 1) + 1)) w_13) (X_4 (IntKind.wrap .i64 (IntKind.wrap .i64 (2 * x_2) + 1)) w_13)) <| fun (x_14 : Int) w_15 => idx data (IntKind.wrap .i64 (first + x_2)) 1 <| fun a_16 => ld (.int .u32) a_16 (World.drew w_15) <| fun (x_17 : Int) => idx data (IntKind.wrap .i64 (first + x_14)) 1 <| fun a_18 => ld (.int .u32) a_18 (World.drew w_15) <| fun (x_19 : Int) => call Tryz.prog 153 ([.int .u32 x_17, .int .u32 x_19]) ([.one .bool]) (World.drew w_15) <| fun (b_20 : Bool) w_21 => cond (!b_20) (K () w_21) (idx data (IntKind.wrap .i64 (first + x_14)) 1 <| fun a_22 => ld (.int .u32) a_22 (World.drew w_21) <| fun (x_23 : Int) => idx data (IntKind.wrap .i64 (first + x_2)) 1 <| fun a_24 => ld (.int .u32) a_24 (World.drew w_21) <| fun (x_25 : Int) => idx data (IntKind.wrap .i64 (first + x_2)) 1 <| fun a_26 => st a_26 ([.int .u32 x_23]) (World.drew w_21) <| fun w_27 => idx data (IntKind.wrap .i64 (first + x_14)) 1 <| fun a_28 => st a_28 ([.int .u32 x_25]) w_27 <| fun w_29 => X_1 x_14 w_29))) lo w
def qdz : List Ann := [.n, .l [(8, .one (.int .i64))], .n, .n, .n, .j [(9, .one (.int .i64))], .j [(36, .one .bool)], .o [[0, 1, 2, 3, 4, 5, 6, 7, 8, 9, 10, 11, 12, 13, 14, 15, 16, 17, 18, 19]], .n, .n, .o [[0, 1, 2, 3, 4, 5, 6, 7, 8, 9, 10, 11, 12, 13]], .n, .o [[0, 1, 2, 3, 4, 5, 6, 7, 8, 9, 10, 11, 12, 13, 14, 15, 16, 17, 18, 19, 20, 21, 22, 23]]]
theorem qgl {data : Sl} {lo : Int} {hi : Int} {first : Int} {w : World} {K : Unit -> World -> Prop} (hF : qbI data lo hi first K w) : call Tryz.prog 168 [.slice data.a data.len data.cap, .int .i64 lo, .int .i64 hi, .int .i64 first] [] w K := qab (an := qdz) Tryz.func168 (by kernel_rfl) ((show fnPt (std Tryz.prog) Tryz.prog Tryz.f168 qdz [] [.slice data.a data.len data.cap, .int .i64 lo, .int .i64 hi, .int .i64 first] K w = qbI data lo hi first K w by kernel_rfl).mpr hF)
def qbT (length : Int) (K : Int -> World -> Prop) (w : World) : Prop := call Tryz.prog 125 ([.int .u64 (IntKind.wrap .u64 length)]) ([.one (.int .i64)]) w <| fun (x_1 : Int) w_2 => chk (0 <= x_1) <| K (IntKind.wrap .u64 (1 * 2 ^ min (Int.toNat x_1) 64)) w_2
def qdL : List Ann := [.n, .n]
theorem qgV {length : Int} {w : World} {K : Int -> World -> Prop} (hF : qbT length K w) : call Tryz.prog 169 [.int .i64 length] [.one (.int .u64)] w K := qab (an := qdL) Tryz.func169 (by kernel_rfl) ((show fnPt (std Tryz.prog) Tryz.prog Tryz.f169 qdL [.one (.int .u64)] [.int .i64 length] K w = qbT length K w by kernel_rfl).mpr hF)
def qcc (r : Option Addr) (K : Int -> World -> Prop) (w : World) : Prop := nn r <| fun a_1 => ld (.int .u64) a_1 (World.drew w) <| fun (x_2 : Int) => nn r <| fun a_3 => ld (.int .u64) a_3 (World.drew w) <| fun (x_4 : Int) => nn r <| fun a_5 => st a_5 ([.int .u64 (bits BinOp.xor IntKind.u64 x_2 (IntKind.wrap .u64 (x_4 * 2 ^ 13)))]) (World.drew w) <| fun w_6 => nn r <| fun a_7 => ld (.int .u64) a_7 (World.drew w_6) <| fun (x_8 : Int) => nn r <| fun a_9 => ld (.int .u64) a_9 (World.drew w_6) <| fun (x_10 : Int) => nn r <| fun a_11 => st a_11 ([.int .u64 (bits BinOp.xor IntKind.u64 x_8 (Int.fdiv x_10 (2 ^ 7)))]) (World.drew w_6) <| fun w_12 => nn r <| fun a_13 => ld (.int .u64) a_13 (World.drew w_12) <| fun (x_14 : Int) => nn r <| fun a_15 => ld (.int .u64) a_15 (World.drew w_12) <| fun (x_16 : Int) => nn r <| fun a_17 => st a_17 ([.int .u64 (bits BinOp.xor IntKind.u64 x_14 (IntKind.wrap .u64 (x_16 * 2 ^ 17)))]) (World.drew w_12) <| fun w_18 => nn r <| fun a_19 => ld (.int .u64) a_19 w_18 <| fun (x_20 : Int) => K x_20 w_18
def qea : List Ann := [.n, .n, .o [[0, 1, 2, 3, 4, 5, 6, 7, 8, 9]], .n, .o [[0, 1, 2, 3, 4, 5, 6, 7, 8, 9]], .n, .o [[0, 1, 2, 3, 4, 5, 6, 7, 8, 9]], .n]
theorem qgY {r : Option Addr} {w : World} {K : Int -> World -> Prop} (hF : qcc r K w) : call Tryz.prog 170 [.pointer r] [.one (.int .u64)] w K := qab (an := qea) Tryz.func170 (by kernel_rfl) ((show fnPt (std Tryz.prog) Tryz.prog Tryz.f170 qea [.one (.int .u64)] [.pointer r] K w = qcc r K w by kernel_rfl).mpr hF)
def qa0 (data : Sl) (a : Int) (swaps : Option Addr) (K : Int -> World -> Prop) (w : World) : Prop := call Tryz.prog 172 ([.slice data.a data.len data.cap, .int .i64 (IntKind.wrap .i64 (a - 1)), .int .i64 a, .int .i64 (IntKind.wrap .i64 (a + 1)), .pointer swaps]) ([.one (.int .i64)]) w <| fun (x_1 : Int) w_2 => K x_1 w_2
def qbW : List Ann := [.n, .n]
theorem qee {data : Sl} {a : Int} {swaps : Option Addr} {w : World} {K : Int -> World -> Prop} (hF : qa0 data a swaps K w) : call Tryz.prog 171 [.slice data.a data.len data.cap, .int .i64 a, .pointer swaps] [.one (.int .i64)] w K := qab (an := qbW) Tryz.func171 (by kernel_rfl) ((show fnPt (std Tryz.prog) Tryz.prog Tryz.f171 qbW [.one (.int .i64)] [.slice data.a data.len data.cap, .int .i64 a, .pointer swaps] K w = qa0 data a swaps K w by kernel_rfl).mpr hF)
def qb7 (data : Sl) (a : Int) (b : Int) (c : Int) (swaps : Option Addr) (K : Int -> World -> Prop) (w : World) : Prop := call Tryz.prog 177 ([.slice data.a data.len data.cap, .int .i64 a, .int .i64 b, .pointer swaps]) ([.one (.int .i64), .one (.int .i64)]) w <| fun (t_1 : Int × Int) w_2 => call Tryz.prog 177 ([.slice data.a data.len data.cap, .int .i64 t_1.snd, .int .i64 c, .pointer swaps]) ([.one (.int .i64), .one (.int .i64)]) w_2 <| fun (t_3 : Int × Int) w_4 => call Tryz.prog 177 ([.slice data.a data.len data.cap, .int .i64 t_1.fst, .int .i64 t_3.fst, .pointer swaps]) ([.one (.int .i64), .one (.int .i64)]) w_4 <| fun (t_5 : Int × Int) w_6 => K t_5.snd w_6
def qd5 : List Ann := [.n, .n, .n, .n, .n]
theorem qg5 {data : Sl} {a : Int} {b : Int} {c : Int} {swaps : Option Addr} {w : World} {K : Int -> World -> Prop} (hF : qb7 data a b c swaps K w) : call Tryz.prog 172 [.slice data.a data.len data.cap, .int .i64 a, .int .i64 b, .int .i64 c, .pointer swaps] [.one (.int .i64)] w K := qab (an := qd5) Tryz.func172 (by kernel_rfl) ((show fnPt (std Tryz.prog) Tryz.prog Tryz.f172 qd5 [.one (.int .i64)] [.slice data.a data.len data.cap, .int .i64 a, .int .i64 b, .int .i64 c, .pointer swaps] K w = qb7 data a b c swaps K w by kernel_rfl).mpr hF)
def qiI (x : Int) (K : Bool -> World -> Prop) (w : World) : Prop := K (!x == x) w
def qmc : List Ann := [.n, .n]
theorem qn6 {x : Int} {w : World} {K : Bool -> World -> Prop} (hF : qiI x K w) : call Tryz.prog 173 [.int .u32 x] [.one .bool] w K := qab (an := qmc) Tryz.func173 (by kernel_rfl) ((show fnPt (std Tryz.prog) Tryz.prog Tryz.f173 qmc [.one .bool] [.int .u32 x] K w = qiI x K w by kernel_rfl).mpr hF)
def qb1 (data : Sl) (a : Int) (b : Int) (swaps : Option Addr) (K : (Int × Int) -> World -> Prop) (w : World) : Prop := idx data b 1 <| fun a_1 => ld (.int .u32) a_1 (World.drew w) <| fun (x_2 : Int) => idx data a 1 <| fun a_3 => ld (.int .u32) a_3 (World.drew w) <| fun (x_4 : Int) => call Tryz.prog 153 ([.int .u32 x_2, .int .u32 x_4]) ([.one .bool]) (World.drew w) <| fun (b_5 : Bool) w_6 => cond b_5 (nn swaps <| fun a_7 => ld (.int .i64) a_7 w_6 <| fun (x_8 : Int) => nn swaps <| fun a_9 => st a_9 ([.int .i64 (IntKind.wrap .i64 (x_8 + 1))]) w_6 <| fun w_10 => K ((b, a)) w_10) (K ((a, b)) w_6)
def qd6 : List Ann := [.n, .n, .n, .o [[0, 1, 2, 3, 4, 5, 6, 7, 8]], .n, .n, .n]
theorem qg0 {data : Sl} {a : Int} {b : Int} {swaps : Option Addr} {w : World} {K : (Int × Int) -> World -> Prop} (hF : qb1 data a b swaps K w) : call Tryz.prog 177 [.slice data.a data.len data.cap, .int .i64 a, .int .i64 b, .pointer swaps] [.one (.int .i64), .one (.int .i64)] w K := qab (an := qd6) Tryz.func177 (by kernel_rfl) ((show fnPt (std Tryz.prog) Tryz.prog Tryz.f177 qd6 [.one (.int .i64), .one (.int .i64)] [.slice data.a data.len data.cap, .int .i64 a, .int .i64 b, .pointer swaps] K w = qb1 data a b swaps K w by kernel_rfl).mpr hF)
end Go.Proofs.YtmbcedengdoamaaGreatDoor
end
section
set_option linter.unusedVariables false
set_option linter.unusedSimpArgs false
namespace Go.Proofs.YtmbcedengdoamaaGreatDoor
open Go Go.Pt Go.Sort
attribute [local irreducible] ld ldA st new idx idxS idxA slc slcS slcP mkS chk nn call callV inv run runQ runU join loop held IntKind.wrap
def u32s (d : Array Int) : Array Value := d.map (.int .u32)
theorem qr0 (d : Array Int) (i : Nat) (h : i < d.size) : (u32s d)[i]? = some (.int .u32 d[i]!) := by
 unfold u32s
 simp [h]
theorem qd9 (d : Array Int) : (u32s d).size = d.size := by simp [u32s]
theorem qoL (d : Array Int) (i : Nat) (v : Int) : (u32s d).setIfInBounds i (.int .u32 v) = u32s (d.setIfInBounds i v) := by
 unfold u32s
 apply Array.ext_getElem?
 intro j
 simp only [Array.getElem?_setIfInBounds, Array.getElem?_map, Array.size_map]
 by_cases hj : i = j
 ·subst hj
  by_cases hi : i < d.size <;> simp [hi]
 ·simp [hj]
structure ArrT where
 ty : TypeId
 rest : Option (Array Value)
instance : Coe TypeId ArrT := ⟨fun T => ⟨T, none⟩⟩
def ArrT.cells (T : ArrT) (c : Array Value) : Array Value := match T.rest with | none => c | some r => c ++ r
theorem ArrT.get (T : ArrT) (c : Array Value) (i : Nat) (h : i < c.size) : (T.cells c)[i]? = c[i]? := by
 unfold ArrT.cells
 split
 ·rfl
 ·rw [Array.getElem?_append_left h]
theorem ArrT.size (T : ArrT) (c : Array Value) : c.size <= (T.cells c).size := by
 unfold ArrT.cells
 split
 ·exact Nat.le_refl _
 ·rw [Array.size_append]; omega
theorem ArrT.set (T : ArrT) (c : Array Value) (i : Nat) (v : Value) (h : i < c.size) : (T.cells c).setIfInBounds i v = T.cells (c.setIfInBounds i v) := by
 unfold ArrT.cells
 split
 ·rfl
 ·rename_i r _
  apply Array.ext_getElem?
  intro j
  rw [Array.getElem?_setIfInBounds, Array.getElem?_append, Array.getElem?_append, Array.size_append, Array.size_setIfInBounds, Array.getElem?_setIfInBounds]
  by_cases hij : i = j
  ·subst hij
   rw [if_pos rfl, if_pos (by omega), if_pos h, if_pos rfl, if_pos h]
  ·rw [if_neg hij, if_neg hij]
structure Arr (blk : Nat) (T : ArrT) (w0 w : World) (d : Array Int) : Prop where
 fr : Fr [blk] w0 w
 blk : w.heap[blk]? = some (.cells (T.cells (u32s d)) T.ty (0, 0))
theorem Arr.start {blk : Nat} {T : TypeId} {w : World} {d : Array Int} (h : w.heap[blk]? = some (.cells (u32s d) T (0, 0))) : Arr blk T w w d := ⟨.refl _ _, h⟩
section
variable {blk : Nat} {T : ArrT} {w0 w : World} {d : Array Int} {len cap : Nat}
theorem Arr.drew (h : Arr blk T w0 w d) : Arr blk T w0 w.drew d := ⟨h.fr.drew, h.blk⟩
theorem Arr.rd (h : Arr blk T w0 w d) (n : Nat) {i : Int} {K : Int -> Prop} (hi : i = n) (hn : n < len) (hl : len <= d.size /\ len <= 1152921504606846976) (k : K d[n]!) :
  idx ⟨some ⟨blk, 0, none⟩, len, cap⟩ i 1 fun a => ld (.int .u32) a w K := by
 subst hi
 refine qfg (by omega) (by omega) ?_
 refine qag h.blk d[n]! ?_ k
 rw [Int.toNat_natCast, Nat.zero_add, Nat.mul_one]
 rw [ArrT.get _ _ _ (by rw [qd9]; omega)]
 exact qr0 d n (by omega)
theorem Arr.wr (h : Arr blk T w0 w d) (n : Nat) {i v : Int} {K : World -> Prop} (hi : i = n) (hn : n < len) (hl : len <= d.size /\ len <= 1152921504606846976) (k : ∀ w', Arr blk T w0 w' (d.setIfInBounds n v) -> K w') :
  idx ⟨some ⟨blk, 0, none⟩, len, cap⟩ i 1 fun a => st a [.int .u32 v] w K := by
 subst hi
 refine qfg (by omega) (by omega) ?_
 rw [Int.toNat_natCast, Nat.zero_add, Nat.mul_one]
 show st ⟨blk, n, none⟩ _ w K
 unfold st
 refine qic (w := w) [.int .u32 v] n 0 _ w K h.blk rfl (by have := T.size (u32s d); rw [qd9] at this; simp; omega) (k _ ⟨?_, ?_⟩)
 ·refine h.fr.trans ⟨rfl, rfl, rfl, by rw [qcm]; exact Nat.le_refl _, fun j hj hS => ?_⟩
  rw [qaD _ _ _ _ (qac h.blk), if_neg (by simpa using hS)]
 ·rw [qaD _ _ _ _ (qac h.blk), if_pos rfl]
  simp only [splice, Nat.add_zero]
  rw [ArrT.set _ _ _ _ (by rw [qd9]; omega), qoL]
theorem Arr.swap (h : Arr blk T w0 w d) (n m : Nat) {i j : Int} {K : World -> Prop} (hi : i = n) (hj : j = m) (hn : n < len) (hm : m < len) (hl : len <= d.size /\ len <= 1152921504606846976) (k : ∀ w', Arr blk T w0 w' (swp d n m) -> K w') :
  idx ⟨some ⟨blk, 0, none⟩, len, cap⟩ j 1 fun a => ld (.int .u32) a w fun x => idx ⟨some ⟨blk, 0, none⟩, len, cap⟩ i 1 fun a => ld (.int .u32) a w fun y =>
   idx ⟨some ⟨blk, 0, none⟩, len, cap⟩ i 1 fun a => st a [.int .u32 x] w fun w' => idx ⟨some ⟨blk, 0, none⟩, len, cap⟩ j 1 fun a => st a [.int .u32 y] w' K := by
 refine h.rd m hj hm hl ?_
 refine h.rd n hi hn hl ?_
 refine h.wr n hi hn hl fun w1 h1 => ?_
 refine h1.wr m hj hm (by simpa using hl) fun w2 h2 => ?_
 exact k w2 h2
theorem qgQ (d : Array Int) (n m : Nat) : (swp d n m).size = d.size := by simp [swp]
end
theorem qsq {x : Int} {w : World} {K : Bool -> World -> Prop} (hk : K false w) : call Tryz.prog 173 [.int .u32 x] [.one .bool] w K := by
 apply qn6
 unfold qiI
 simpa using hk
theorem qbc {x y : Int} {w : World} {K : Bool -> World -> Prop} (hk : K (ltInt x y) w) : call Tryz.prog 153 [.int .u32 x, .int .u32 y] [.one .bool] w K := by
 apply qps
 unfold qju
 refine qsq ?_
 exact cond_false rfl hk
theorem swo : SWO ltInt := ⟨fun x => by simp [ltInt], fun x y z h1 h2 => by simp [ltInt] at *; omega, fun x y z h1 h2 => by simp [ltInt] at *; omega⟩
theorem wi (x : Int) (h : -9223372036854775808 <= x /\ x <= 9223372036854775807) : IntKind.i64.wrap x = x := IntWalk.i64_in x h
theorem qti {blk : Nat} {T : ArrT} {w0 w : World} {d : Array Int} {len cap a b : Nat} {K : Unit -> World -> Prop} (h : Arr blk T w0 w d) (hab : a <= b) (hb : b <= len) (hl : len <= d.size /\ len <= 1152921504606846976)
  (hk : ∀ w', Arr blk T w0 w' (insertionSort ltInt d a b) -> K () w') : call Tryz.prog 147 [.slice (some ⟨blk, 0, none⟩) len cap, .int .i64 a, .int .i64 b] [] w K := by
 refine qbN (data := ⟨some ⟨blk, 0, none⟩, len, cap⟩) ?_
 unfold qaM
 rw [wi _ (by omega)]
 refine qaf (fun x w' => ∃ (i : Nat) (d' : Array Int), x = i /\ a + 1 <= i /\ Arr blk T w0 w' d' /\ d'.size = d.size /\ insOuter ltInt a b i d' = insOuter ltInt a b (a + 1) d) (fun x _ => ((b : Int) - x).toNat)
  ⟨a + 1, d, by omega, by omega, h, rfl, rfl⟩ ?_
 rintro x w1 ⟨i, d1, rfl, hi, h, hs1, he1⟩ X hX
 refine qaa (fun hc => ?_) (fun hc => ?_)
 ·have hib : i < b := by have := of_decide_eq_true hc; omega
  refine qaf (fun y w' => ∃ (j : Nat) (d' : Array Int), y = j /\ j <= i /\ Arr blk T w0 w' d' /\ d'.size = d.size /\ insInner ltInt a j d' = insInner ltInt a i d1) (fun y _ => y.toNat)
   ⟨i, d1, rfl, by omega, h, hs1, rfl⟩ ?_
  rintro y w2 ⟨j, d2, rfl, hj, h, hs2, he2⟩ Z hZ
  refine qae (fun c w' => c = (decide (a < j) && ltInt d2[j]! d2[j - 1]!) /\ Arr blk T w0 w' d2) ?_ ?_
  ·refine qaa (fun hc => ?_) (fun hc => ?_)
   ·have hc' : a < j := by have := of_decide_eq_true hc; omega
    refine h.drew.rd j rfl (by omega) (by omega) ?_
    refine h.drew.rd (j - 1) (by rw [wi _ (by omega)]; omega) (by omega) (by omega) ?_
    refine qbc ?_
    exact ⟨by simp [hc'], h.drew⟩
   ·have hc' : ¬ a < j := by have := of_decide_eq_false hc; omega
    exact ⟨by simp [hc'], h.drew⟩
  ·rintro c w3 ⟨rfl, h⟩
   refine qaa (fun hc => ?_) (fun hc => ?_)
   ·simp only [Bool.and_eq_true, decide_eq_true_eq] at hc
    obtain ⟨k, rfl⟩ : ∃ k, j = k + 1 := ⟨j - 1, by omega⟩
    refine h.drew.swap (k + 1) k rfl (by rw [wi _ (by omega)]; omega) (by omega) (by omega) (by omega) fun w4 h => ?_
    refine hZ _ _ ⟨k, _, by rw [wi _ (by omega)]; omega, by omega, h, by rw [qgQ]; exact hs2, ?_⟩ (by rw [wi _ (by omega)]; omega)
    rw [<- he2, insInner, if_pos (by simpa using hc)]
   ·rw [wi _ (by omega)]
    refine hX _ _ ⟨i + 1, d2, by omega, by omega, h, hs2, ?_⟩ (by omega)
    rw [<- he1, insOuter.eq_1 ltInt a b i d1, if_pos hib, <- he2]
    cases j with
    | zero => rfl
    | succ k =>
     rw [insInner, if_neg]
     simpa using hc
 ·have hib : ¬ i < b := by have := of_decide_eq_false hc; omega
  rw [insOuter.eq_1 ltInt a b i d1, if_neg hib] at he1
  refine hk _ ?_
  unfold insertionSort
  rw [<- he1]
  exact h
end Go.Proofs.YtmbcedengdoamaaGreatDoor
end
section
set_option linter.unusedVariables false
set_option maxRecDepth 100000
namespace Go.Proofs.YtmbcedengdoamaaGreatDoor
open Go Go.Pt
def qjU  (K : ((Option Addr)) -> World -> Prop) (w : World) : Prop := new (Obj.map #[] 0) w <| fun r_1 w_2 => new (Obj.cells #[.slice none 0 0, .map (some r_1)] 172) w_2 <| fun r_3 w_4 => K (some ⟨r_3, 0, none⟩) w_4
def qmU : List Ann := [.n, .n]
theorem qpt  {w : World} {K : ((Option Addr)) -> World -> Prop} (hF : qjU  K w) : call Tryz.prog 100 [] [.one .ptr] w K := qab (an := qmU) Tryz.func100 (by kernel_rfl) ((show fnPt (std Tryz.prog) Tryz.prog Tryz.f100 qmU [.one .ptr] [] K w = qjU  K w by kernel_rfl).mpr hF)
def qfe (p : Option Addr) (K : Int -> World -> Prop) (w : World) : Prop := nn p <| fun a_1 => ld .slice a_1 w <| fun (s_2 : Sl) => K (↑s_2.len : Int) w
def qig : List Ann := [.n, .n]
theorem qlc {p : Option Addr} {w : World} {K : Int -> World -> Prop} (hF : qfe p K w) : call Tryz.prog 43 [.pointer p] [.one (.int .i64)] w K := qab (an := qig) Tryz.func43 (by kernel_rfl) ((show fnPt (std Tryz.prog) Tryz.prog Tryz.f43 qig [.one (.int .i64)] [.pointer p] K w = qfe p K w by kernel_rfl).mpr hF)
def qcI (a : Sl) (b : Sl) (K : Bool -> World -> Prop) (w : World) : Prop := cond (!(↑a.len : Int) == (↑b.len : Int)) (K false w) (loop (Int) (fun X_1 (x_2 : Int) w_3 => cond (decide (x_2 < (↑a.len : Int))) (idx a x_2 1 <| fun a_4 => ld (.int .u32) a_4 (World.drew w_3) <| fun (x_5 : Int) => idx b x_2 1 <| fun a_6 => ld (.int .u32) a_6 (World.drew w_3) <| fun (x_7 : Int) => cond (!x_5 == x_7) (K false (World.drew w_3)) (X_1 (IntKind.wrap .i64 (x_2 + 1)) (World.drew w_3))) (K true w_3)) 0 w)
def qeR : List Ann := [.n, .n, .n, .n, .n, .n, .l [(5, .one (.int .i64))], .n, .n, .n, .n, .o [[0, 1, 2, 3, 4, 5, 6, 7, 8]], .n, .n]
theorem qh6 {a : Sl} {b : Sl} {w : World} {K : Bool -> World -> Prop} (hF : qcI a b K w) : call Tryz.prog 31 [.slice a.a a.len a.cap, .slice b.a b.len b.cap] [.one .bool] w K := qab (an := qeR) Tryz.func31 (by kernel_rfl) ((show fnPt (std Tryz.prog) Tryz.prog Tryz.f31 qeR [.one .bool] [.slice a.a a.len a.cap, .slice b.a b.len b.cap] K w = qcI a b K w by kernel_rfl).mpr hF)
def qek (p : Option Addr) (K : Sl -> World -> Prop) (w : World) : Prop := nn p <| fun a_1 => ld .slice a_1 w <| fun (s_2 : Sl) => call Tryz.prog 82 ([.slice s_2.a s_2.len s_2.cap]) ([.one .slice]) w <| fun (s_3 : Sl) w_4 => call Tryz.prog 91 ([.slice s_3.a s_3.len s_3.cap]) [] w_4 <| fun (x_5 : PUnit) w_6 => K s_3 w_6
def qhc : List Ann := [.n, .n, .n, .n]
theorem qkA {p : Option Addr} {w : World} {K : Sl -> World -> Prop} (hF : qek p K w) : call Tryz.prog 40 [.pointer p] [.one .slice] w K := qab (an := qhc) Tryz.func40 (by kernel_rfl) ((show fnPt (std Tryz.prog) Tryz.prog Tryz.f40 qhc [.one .slice] [.pointer p] K w = qek p K w by kernel_rfl).mpr hF)
def qfb (p : Option Addr) (n : Int) (K : Bool -> World -> Prop) (w : World) : Prop := call Tryz.prog 93 ([.pointer p, .int .u32 n]) ([.one .bool]) w <| fun (b_1 : Bool) w_2 => cond b_1 (K false w_2) (nn p <| fun a_3 => ld .map ⟨a_3.block, a_3.off + 1, none⟩ w_2 <| fun (p_4 : Option Nat) => runU ((Instr.mapUpdate 170 (.map p_4) (.int .u32 n) (.int .i64 1)).run Tryz.prog w_2) <| fun w_5 => nn p <| fun a_6 => call Tryz.prog 94 ([Value.iface 175 (.pointer (some a_6)), Value.iface 29 (.int .u32 n)]) [] w_5 <| fun (x_7 : PUnit) w_8 => K true w_8)
def qhS : List Ann := [.n, .n, .n, .n, .n, .n, .n]
theorem qlv {p : Option Addr} {n : Int} {w : World} {K : Bool -> World -> Prop} (hF : qfb p n K w) : call Tryz.prog 44 [.pointer p, .int .u32 n] [.one .bool] w K := qab (an := qhS) Tryz.func44 (by kernel_rfl) ((show fnPt (std Tryz.prog) Tryz.prog Tryz.f44 qhS [.one .bool] [.pointer p, .int .u32 n] K w = qfb p n K w by kernel_rfl).mpr hF)
def qef (p : Option Addr) (K : (Int × Bool) -> World -> Prop) (w : World) : Prop := nn p <| fun a_1 => ld .slice a_1 w <| fun (s_2 : Sl) => cond ((↑s_2.len : Int) == 0) (K ((0, false)) w) (nn p <| fun a_3 => call Tryz.prog 92 ([Value.iface 175 (.pointer (some a_3))]) ([.one .any]) w <| fun (v_4 : Value) w_5 => runQ [.one (.int .u32), .one .bool] (fun w_6 => (Instr.typeAssert v_4 20 29 true).run Tryz.prog w_6) w_5 <| fun (t_7 : Int × Bool) => nn p <| fun a_8 => ld .map ⟨a_8.block, a_8.off + 1, none⟩ w_5 <| fun (p_9 : Option Nat) => run [] ((Builtin.delete_ (#[170, 29]) 0 (#[.map p_9, .int .u32 t_7.fst])).run Tryz.prog w_5) <| fun (x_10 : PUnit) w_11 => K t_7 w_11)
def qg7 : List Ann := [.n, .n, .n, .n, .n, .n, .n]
theorem qkE {p : Option Addr} {w : World} {K : (Int × Bool) -> World -> Prop} (hF : qef p K w) : call Tryz.prog 41 [.pointer p] [.one (.int .u32), .one .bool] w K := qab (an := qg7) Tryz.func41 (by kernel_rfl) ((show fnPt (std Tryz.prog) Tryz.prog Tryz.f41 qg7 [.one (.int .u32), .one .bool] [.pointer p] K w = qef p K w by kernel_rfl).mpr hF)
def qe5 (p : Option Addr) (n : Int) (K : Bool -> World -> Prop) (w : World) : Prop := nn p <| fun a_1 => ld .map ⟨a_1.block, a_1.off + 1, none⟩ w <| fun (p_2 : Option Nat) => runQ [.one (.int .i64)] (fun w_3 => (Instr.lookup 170 (.map p_2) (.int .u32 n) false).run Tryz.prog w_3) w <| fun (x_4 : Int) => K (x_4 == 1) w
def qhT : List Ann := [.n, .n]
theorem qk8 {p : Option Addr} {n : Int} {w : World} {K : Bool -> World -> Prop} (hF : qe5 p n K w) : call Tryz.prog 93 [.pointer p, .int .u32 n] [.one .bool] w K := qab (an := qhT) Tryz.func93 (by kernel_rfl) ((show fnPt (std Tryz.prog) Tryz.prog Tryz.f93 qhT [.one .bool] [.pointer p, .int .u32 n] K w = qe5 p n K w by kernel_rfl).mpr hF)
def qdo (l : Sl) (n : Int) (K : Bool -> World -> Prop) (w : World) : Prop := loop (Int) (fun X_1 (x_2 : Int) w_3 => cond (decide (x_2 < (↑l.len : Int))) (idx l x_2 1 <| fun a_4 => ld (.int .u32) a_4 w_3 <| fun (x_5 : Int) => cond (x_5 == n) (K true w_3) (X_1 (IntKind.wrap .i64 (x_2 + 1)) w_3)) (K false w_3)) 0 w
def qfy : List Ann := [.n, .n, .n, .l [(5, .one (.int .i64))], .n, .n, .n, .n, .n, .n]
theorem qiN {l : Sl} {n : Int} {w : World} {K : Bool -> World -> Prop} (hF : qdo l n K w) : call Tryz.prog 14 [.slice l.a l.len l.cap, .int .u32 n] [.one .bool] w K := qab (an := qfy) Tryz.func14 (by kernel_rfl) ((show fnPt (std Tryz.prog) Tryz.prog Tryz.f14 qfy [.one .bool] [.slice l.a l.len l.cap, .int .u32 n] K w = qdo l n K w by kernel_rfl).mpr hF)
def qc9 (l : Sl) (n : Int) (K : Sl -> World -> Prop) (w : World) : Prop := new (Obj.cells #[] 29) w <| fun r_1 w_2 => loop (Sl × Bool × Int) (fun X_3 (t_4 : Sl × Bool × Int) w_5 => cond (decide (t_4.snd.snd < (↑l.len : Int))) (join (Sl × Bool) (fun X_6 => join (Sl × Bool) (fun X_7 => join (Bool) (fun X_8 => cond (!t_4.snd.fst) (idx l t_4.snd.snd 1 <| fun a_9 => ld (.int .u32) a_9 w_5 <| fun (x_10 : Int) => X_8 (decide (x_10 >= n)) w_5) (X_8 false w_5)) <| fun (b_11 : Bool) w_12 => cond b_11 (new (Obj.cells #[.int .u32 n] 29) w_12 <| fun r_13 w_14 => run [.one .slice] ((Builtin.append_ (#[27, 27]) 27 (#[.slice t_4.fst.a t_4.fst.len t_4.fst.cap, .slice (some ⟨r_13, 0, none⟩) 1 1])).run Tryz.prog w_14) <| fun (s_15 : Sl) w_16 => X_7 ((s_15, true)) w_16) (X_7 ((t_4.fst, t_4.snd.fst)) w_12)) <| fun (t_17 : Sl × Bool) w_18 => idx l t_4.snd.snd 1 <| fun a_19 => ld (.int .u32) a_19 w_18 <| fun (x_20 : Int) => cond (!x_20 == n) (idx l t_4.snd.snd 1 <| fun a_21 => ld (.int .u32) a_21 w_18 <| fun (x_22 : Int) => new (Obj.cells #[.int .u32 x_22] 29) w_18 <| fun r_23 w_24 => run [.one .slice] ((Builtin.append_ (#[27, 27]) 27 (#[.slice t_17.fst.a t_17.fst.len t_17.fst.cap, .slice (some ⟨r_23, 0, none⟩) 1 1])).run Tryz.prog w_24) <| fun (s_25 : Sl) w_26 => X_6 ((s_25, t_17.snd)) w_26) (X_6 t_17 w_18)) <| fun (t_27 : Sl × Bool) w_28 => X_3 ((t_27.fst, t_27.snd, IntKind.wrap .i64 (t_4.snd.snd + 1))) w_28) (join (Sl) (fun X_29 => cond (!t_4.snd.fst) (new (Obj.cells #[.int .u32 n] 29) w_5 <| fun r_30 w_31 => run [.one .slice] ((Builtin.append_ (#[27, 27]) 27 (#[.slice t_4.fst.a t_4.fst.len t_4.fst.cap, .slice (some ⟨r_30, 0, none⟩) 1 1])).run Tryz.prog w_31) <| fun (s_32 : Sl) w_33 => X_29 s_32 w_33) (X_29 t_4.fst w_5)) <| fun (s_34 : Sl) w_35 => K s_34 w_35)) (({ a := some ⟨r_1, 0, none⟩, len := 0, cap := 0 }, false, 0)) w_2
def qfu : List Ann := [.n, .n, .n, .n, .n, .l [(5, .one .slice), (6, .one .bool), (7, .one (.int .i64))], .n, .n, .j [(5, .one .slice), (6, .one .bool)], .j [(5, .one .slice), (6, .one .bool)], .j [(24, .one .bool)], .n, .n, .j [(5, .one .slice)], .n, .n]
theorem qiY {l : Sl} {n : Int} {w : World} {K : Sl -> World -> Prop} (hF : qc9 l n K w) : call Tryz.prog 15 [.slice l.a l.len l.cap, .int .u32 n] [.one .slice] w K := qab (an := qfu) Tryz.func15 (by kernel_rfl) ((show fnPt (std Tryz.prog) Tryz.prog Tryz.f15 qfu [.one .slice] [.slice l.a l.len l.cap, .int .u32 n] K w = qc9 l n K w by kernel_rfl).mpr hF)
def qct (s : Sl) (K : Sl -> World -> Prop) (w : World) : Prop := cond (Option.isNone s.a) (K ({ a := none, len := 0, cap := 0 }) w) (new (Obj.cells #[] 29) w <| fun r_1 w_2 => run [.one .slice] ((Builtin.append_ (#[27, 27]) 27 (#[.slice (some ⟨r_1, 0, none⟩) 0 0, .slice s.a s.len s.cap])).run Tryz.prog w_2) <| fun (s_3 : Sl) w_4 => K s_3 w_4)
def qjc : List Ann := [.n, .n, .n, .n, .n]
theorem qeh {s : Sl} {w : World} {K : Sl -> World -> Prop} (hF : qct s K w) : call Tryz.prog 82 [.slice s.a s.len s.cap] [.one .slice] w K := qab (an := qjc) Tryz.func82 (by kernel_rfl) ((show fnPt (std Tryz.prog) Tryz.prog Tryz.f82 qjc [.one .slice] [.slice s.a s.len s.cap] K w = qct s K w by kernel_rfl).mpr hF)
def qiD (h : Value) (x : Value) (K : Unit -> World -> Prop) (w : World) : Prop := inv Tryz.prog h "Push" [x] [] w <| fun (x_1 : PUnit) w_2 => inv Tryz.prog h "Len" [] ([.one (.int .i64)]) w_2 <| fun (x_3 : Int) w_4 => call Tryz.prog 127 ([h, .int .i64 (IntKind.wrap .i64 (x_3 - 1))]) [] w_4 <| fun (x_5 : PUnit) w_6 => K () w_6
def ql4 : List Ann := [.n]
theorem qoF {h : Value} {x : Value} {w : World} {K : Unit -> World -> Prop} (hF : qiD h x K w) : call Tryz.prog 94 [h, x] [] w K := qab (an := ql4) Tryz.func94 (by kernel_rfl) ((show fnPt (std Tryz.prog) Tryz.prog Tryz.f94 ql4 [] [h, x] K w = qiD h x K w by kernel_rfl).mpr hF)
def qjW (h : Value) (K : Value -> World -> Prop) (w : World) : Prop := inv Tryz.prog h "Len" [] ([.one (.int .i64)]) w <| fun (x_1 : Int) w_2 => inv Tryz.prog h "Swap" ([.int .i64 0, .int .i64 (IntKind.wrap .i64 (x_1 - 1))]) [] w_2 <| fun (x_3 : PUnit) w_4 => call Tryz.prog 126 ([h, .int .i64 0, .int .i64 (IntKind.wrap .i64 (x_1 - 1))]) ([.one .bool]) w_4 <| fun (b_5 : Bool) w_6 => inv Tryz.prog h "Pop" [] ([.one .any]) w_6 <| fun (v_7 : Value) w_8 => K v_7 w_8
def qm9 : List Ann := [.n, .n, .n, .n, .n]
theorem qpq {h : Value} {w : World} {K : Value -> World -> Prop} (hF : qjW h K w) : call Tryz.prog 92 [h] [.one .any] w K := qab (an := qm9) Tryz.func92 (by kernel_rfl) ((show fnPt (std Tryz.prog) Tryz.prog Tryz.f92 qm9 [.one .any] [h] K w = qjW h K w by kernel_rfl).mpr hF)
def qlz (h : Value) (j : Int) (K : Unit -> World -> Prop) (w : World) : Prop := loop (Int) (fun X_1 (x_2 : Int) w_3 => join (Bool) (fun X_4 => cond (IntKind.wrap .i64 (Int.tdiv (IntKind.wrap .i64 (x_2 - 1)) 2) == x_2) (X_4 true w_3) (inv Tryz.prog h "Less" ([.int .i64 x_2, .int .i64 (IntKind.wrap .i64 (Int.tdiv (IntKind.wrap .i64 (x_2 - 1)) 2))]) ([.one .bool]) w_3 <| fun (b_5 : Bool) w_6 => X_4 (!b_5) w_6)) <| fun (b_7 : Bool) w_8 => cond b_7 (K () w_8) (inv Tryz.prog h "Swap" ([.int .i64 (IntKind.wrap .i64 (Int.tdiv (IntKind.wrap .i64 (x_2 - 1)) 2)), .int .i64 x_2]) [] w_8 <| fun (x_9 : PUnit) w_10 => X_1 (IntKind.wrap .i64 (Int.tdiv (IntKind.wrap .i64 (x_2 - 1)) 2)) w_10)) j w
def qnO : List Ann := [.l [(1, .one (.int .i64))], .n, .n, .j [(17, .one .bool)], .n]
theorem qqj {h : Value} {j : Int} {w : World} {K : Unit -> World -> Prop} (hF : qlz h j K w) : call Tryz.prog 127 [h, .int .i64 j] [] w K := qab (an := qnO) Tryz.func127 (by kernel_rfl) ((show fnPt (std Tryz.prog) Tryz.prog Tryz.f127 qnO [] [h, .int .i64 j] K w = qlz h j K w by kernel_rfl).mpr hF)
def qii (h : Value) (i0 : Int) (n : Int) (K : Bool -> World -> Prop) (w : World) : Prop := join (Int) (fun X_1 => loop (Int) (fun X_2 (x_3 : Int) w_4 => join (Bool) (fun X_5 => cond (decide (IntKind.wrap .i64 (IntKind.wrap .i64 (2 * x_3) + 1) >= n)) (X_5 true w_4) (X_5 (decide (IntKind.wrap .i64 (IntKind.wrap .i64 (2 * x_3) + 1) < 0)) w_4)) <| fun (b_6 : Bool) w_7 => cond b_6 (X_1 x_3 w_7) (join (Int) (fun X_8 => join (Bool) (fun X_9 => cond (decide (IntKind.wrap .i64 (IntKind.wrap .i64 (IntKind.wrap .i64 (2 * x_3) + 1) + 1) < n)) (inv Tryz.prog h "Less" ([.int .i64 (IntKind.wrap .i64 (IntKind.wrap .i64 (IntKind.wrap .i64 (2 * x_3) + 1) + 1)), .int .i64 (IntKind.wrap .i64 (IntKind.wrap .i64 (2 * x_3) + 1))]) ([.one .bool]) w_7 <| fun (b_10 : Bool) w_11 => X_9 b_10 w_11) (X_9 false w_7)) <| fun (b_12 : Bool) w_13 => cond b_12 (X_8 (IntKind.wrap .i64 (IntKind.wrap .i64 (IntKind.wrap .i64 (2 * x_3) + 1) + 1)) w_13) (X_8 (IntKind.wrap .i64 (IntKind.wrap .i64 (2 * x_3) + 1)) w_13)) <| fun (x_14 : Int) w_15 => inv Tryz.prog h "Less" ([.int .i64 x_14, .int .i64 x_3]) ([.one .bool]) w_15 <| fun (b_16 : Bool) w_17 => cond (!b_16) (X_1 x_3 w_17) (inv Tryz.prog h "Swap" ([.int .i64 x_3, .int .i64 x_14]) [] w_17 <| fun (x_18 : PUnit) w_19 => X_2 x_14 w_19))) i0 w) <| fun (x_20 : Int) w_21 => K (decide (x_20 > i0)) w_21
def qmr : List Ann := [.n, .n, .j [(7, .one (.int .i64))], .l [(7, .one (.int .i64))], .n, .n, .j [(21, .one .bool)], .n, .j [(9, .one (.int .i64))], .n, .j [(33, .one .bool)], .n, .n, .n, .n]
theorem qow {h : Value} {i0 : Int} {n : Int} {w : World} {K : Bool -> World -> Prop} (hF : qii h i0 n K w) : call Tryz.prog 126 [h, .int .i64 i0, .int .i64 n] [.one .bool] w K := qab (an := qmr) Tryz.func126 (by kernel_rfl) ((show fnPt (std Tryz.prog) Tryz.prog Tryz.f126 qmr [.one .bool] [h, .int .i64 i0, .int .i64 n] K w = qii h i0 n K w by kernel_rfl).mpr hF)
def qfM (r : Sl) (K : Int -> World -> Prop) (w : World) : Prop := K (↑r.len : Int) w
def qi5 : List Ann := [.n, .n]
theorem qmo {r : Sl} {w : World} {K : Int -> World -> Prop} (hF : qfM r K w) : call Tryz.prog 194 [.slice r.a r.len r.cap] [.one (.int .i64)] w K := qab (an := qi5) Tryz.func194 (by kernel_rfl) ((show fnPt (std Tryz.prog) Tryz.prog Tryz.f194 qi5 [.one (.int .i64)] [.slice r.a r.len r.cap] K w = qfM r K w by kernel_rfl).mpr hF)
def qe8 (r : Sl) (i : Int) (k : Int) (K : Bool -> World -> Prop) (w : World) : Prop := idx r i 1 <| fun a_1 => ld (.int .u32) a_1 (World.drew w) <| fun (x_2 : Int) => idx r k 1 <| fun a_3 => ld (.int .u32) a_3 (World.drew w) <| fun (x_4 : Int) => K (decide (x_2 < x_4)) (World.drew w)
def qhQ : List Ann := [.n, .n, .o [[0, 1, 2, 3, 4, 5, 6, 7, 8, 9]]]
theorem qlA {r : Sl} {i : Int} {k : Int} {w : World} {K : Bool -> World -> Prop} (hF : qe8 r i k K w) : call Tryz.prog 195 [.slice r.a r.len r.cap, .int .i64 i, .int .i64 k] [.one .bool] w K := qab (an := qhQ) Tryz.func195 (by kernel_rfl) ((show fnPt (std Tryz.prog) Tryz.prog Tryz.f195 qhQ [.one .bool] [.slice r.a r.len r.cap, .int .i64 i, .int .i64 k] K w = qe8 r i k K w by kernel_rfl).mpr hF)
def qe7 (r : Sl) (i : Int) (k : Int) (K : Unit -> World -> Prop) (w : World) : Prop := idx r k 1 <| fun a_1 => ld (.int .u32) a_1 (World.drew w) <| fun (x_2 : Int) => idx r i 1 <| fun a_3 => ld (.int .u32) a_3 (World.drew w) <| fun (x_4 : Int) => idx r i 1 <| fun a_5 => st a_5 ([.int .u32 x_2]) (World.drew w) <| fun w_6 => idx r k 1 <| fun a_7 => st a_7 ([.int .u32 x_4]) w_6 <| fun w_8 => K () w_8
def qh2 : List Ann := [.o [[0, 1, 2, 3, 4, 5, 6, 7, 8, 9, 10, 11, 12, 13, 14, 15]]]
theorem qlp {r : Sl} {i : Int} {k : Int} {w : World} {K : Unit -> World -> Prop} (hF : qe7 r i k K w) : call Tryz.prog 196 [.slice r.a r.len r.cap, .int .i64 i, .int .i64 k] [] w K := qab (an := qh2) Tryz.func196 (by kernel_rfl) ((show fnPt (std Tryz.prog) Tryz.prog Tryz.f196 qh2 [] [.slice r.a r.len r.cap, .int .i64 i, .int .i64 k] K w = qe7 r i k K w by kernel_rfl).mpr hF)
def qfW (r : Option Addr) (K : Value -> World -> Prop) (w : World) : Prop := nn r <| fun a_1 => ld .slice a_1 (World.drew w) <| fun (s_2 : Sl) => nn r <| fun a_3 => ld .slice a_3 (World.drew w) <| fun (s_4 : Sl) => idx s_2 (IntKind.wrap .i64 ((↑s_4.len : Int) - 1)) 1 <| fun a_5 => ld (.int .u32) a_5 (World.drew w) <| fun (x_6 : Int) => nn r <| fun a_7 => ld .slice a_7 (World.drew (World.drew w)) <| fun (s_8 : Sl) => nn r <| fun a_9 => ld .slice a_9 (World.drew (World.drew w)) <| fun (s_10 : Sl) => slc s_8 none (some (IntKind.wrap .i64 ((↑s_10.len : Int) - 1))) none 1 <| fun (s_11 : Sl) => nn r <| fun a_12 => st a_12 ([.slice s_11.a s_11.len s_11.cap]) (World.drew (World.drew w)) <| fun w_13 => K (Value.iface 29 (.int .u32 x_6)) w_13
def qjj : List Ann := [.n, .n, .o [[0, 1, 2, 3, 4, 5, 6, 7, 8, 9, 10]], .n, .o [[0, 1, 2, 3, 4, 5, 6, 7, 8, 9, 10, 11]], .n]
theorem qlV {r : Option Addr} {w : World} {K : Value -> World -> Prop} (hF : qfW r K w) : call Tryz.prog 197 [.pointer r] [.one .any] w K := qab (an := qjj) Tryz.func197 (by kernel_rfl) ((show fnPt (std Tryz.prog) Tryz.prog Tryz.f197 qjj [.one .any] [.pointer r] K w = qfW r K w by kernel_rfl).mpr hF)
def qfh (r : Option Addr) (x : Value) (K : Unit -> World -> Prop) (w : World) : Prop := runQ [.one (.int .u32), .one .bool] (fun w_1 => (Instr.typeAssert x 20 29 true).run Tryz.prog w_1) w <| fun (t_2 : Int × Bool) => cond t_2.snd (nn r <| fun a_3 => ld .slice a_3 w <| fun (s_4 : Sl) => new (Obj.cells #[.int .u32 t_2.fst] 29) w <| fun r_5 w_6 => run [.one .slice] ((Builtin.append_ (#[169, 169]) 169 (#[.slice s_4.a s_4.len s_4.cap, .slice (some ⟨r_5, 0, none⟩) 1 1])).run Tryz.prog w_6) <| fun (s_7 : Sl) w_8 => nn r <| fun a_9 => st a_9 ([.slice s_7.a s_7.len s_7.cap]) w_8 <| fun w_10 => K () w_10) (K () w)
def qhP : List Ann := [.n, .n]
theorem qlm {r : Option Addr} {x : Value} {w : World} {K : Unit -> World -> Prop} (hF : qfh r x K w) : call Tryz.prog 198 [.pointer r, x] [] w K := qab (an := qhP) Tryz.func198 (by kernel_rfl) ((show fnPt (std Tryz.prog) Tryz.prog Tryz.f198 qhP [] [.pointer r, x] K w = qfh r x K w by kernel_rfl).mpr hF)
end Go.Proofs.YtmbcedengdoamaaGreatDoor
end
section
set_option linter.unusedVariables false
namespace Go.Pt
open Go
variable {P : Program} {w : World}
def methodOf (P : Program) (t : TypeId) (name : String) : Option (FuncId × Bool) :=
 match (P.info? t).bind fun i => i.methods.find? (·.name == name) with
 | some m => bif m.path.isEmpty then m.func else none
 | none => none
theorem qma {t : TypeId} {v : Value} {name : String} {f : FuncId} {p : Bool} (h : methodOf P t name = some (f, p)) (fuel : Nat) :
  ∃ wr, (Go.method (fuel + 1) t v name).run P w = (do let r <- receiverAt t (.val v) p (some wr); pure (f, r) : Sem (FuncId × Value)).run P w := by
 unfold methodOf at h
 cases hi : P.info? t with
 | none => rw [hi] at h; cases h
 | some i =>
  rw [hi] at h
  simp only [Option.bind_some] at h
  cases hm : i.methods.find? (·.name == name) with
  | none => rw [hm] at h; cases h
  | some m =>
   rw [hm] at h
   dsimp only at h
   cases hp : m.path.isEmpty with
   | false => rw [hp] at h; cases h
   | true =>
    rw [hp] at h
    change m.func = some (f, p) at h
    have hpe := Array.isEmpty_iff.1 hp
    refine ⟨(name.splitOn ".").getLastD name, ?_⟩
    simp [Go.method, typeInfo, run_program, hi, hm, hpe, h, follow]
theorem qrF {t e : TypeId} {name : String} {f : FuncId} {q : Value} {args : Array Value} (h : methodOf P t name = some (f, true)) (hu : P.underlying t = some (.pointer e)) (hb : bodyless P f = false) :
  (callMethod (.iface t q) name args).run P w = .ok (.enter f (#[q] ++ args)) w := by
 obtain ⟨wr, hr⟩ := qma (w := w) (v := q) h (P.types.size + Made.depth - 1)
 have hm0 : 0 < Made.depth := by decide
 have hd : P.types.size + Made.depth - 1 + 1 = P.types.size + Made.depth := by omega
 rw [hd] at hr
 have h2 : (do let r <- receiverAt t (.val q) true (some wr); pure (f, r) : Sem (FuncId × Value)).run P w = .ok (f, q) w := by
  simp [receiverAt, run_underlying hu, Place.get]
 rw [h2] at hr
 simp [callMethod, run_program, hr, qdn hb]
theorem qq3 {t e : TypeId} {name : String} {f : FuncId} {a : Addr} {v : Value} {args : Array Value} (h : methodOf P t name = some (f, false)) (hu : P.underlying t = some (.pointer e)) (hb : bodyless P f = false)
  (he : (P.underlying e).isSome = true) (hag : isAggT P e = false) (hc : w.cell? a = some v) :
  (callMethod (.iface t (.pointer (some a))) name args).run P w = .ok (.enter f (#[v] ++ args)) w := by
 obtain ⟨wr, hr⟩ := qma (w := w) (v := .pointer (some a)) h (P.types.size + Made.depth - 1)
 have hm0 : 0 < Made.depth := by decide
 have hd : P.types.size + Made.depth - 1 + 1 = P.types.size + Made.depth := by omega
 rw [hd] at hr
 have h2 : (do let r <- receiverAt t (.val (.pointer (some a))) false (some wr); pure (f, r) : Sem (FuncId × Value)).run P w = .ok (f, v) w := by
  have hs : Builtin.ssaWrapNilChk_ #[t] t #[.pointer (some a), strVal "", strVal wr] = pure (.pointer (some a)) := rfl
  simp [receiverAt, run_underlying hu, Place.get, hs, asAddr, loadVar, qcf he, hag, hc]
 rw [h2] at hr
 simp [callMethod, run_program, hr, qdn hb]
theorem qpE {t e : TypeId} {name : String} {f : FuncId} {q : Value} {args : List Value} {ts : List Ty1} {K : ElR ts -> World -> Prop} (h : methodOf P t name = some (f, true)) (hu : P.underlying t = some (.pointer e)) (hb : bodyless P f = false)
  (k : call P f (q :: args) ts w K) : inv P (.iface t q) name args ts w K :=
 ⟨f, q :: args, by rw [qrF h hu hb]; simp, k⟩
theorem qmN {t e : TypeId} {name : String} {f : FuncId} {a : Addr} {v : Value} {args : List Value} {ts : List Ty1} {K : ElR ts -> World -> Prop} (h : methodOf P t name = some (f, false)) (hu : P.underlying t = some (.pointer e)) (hb : bodyless P f = false)
  (he : (P.underlying e).isSome = true) (hag : isAggT P e = false) (hc : w.cell? a = some v) (k : call P f (v :: args) ts w K) : inv P (.iface t (.pointer (some a))) name args ts w K :=
 ⟨f, v :: args, by rw [qq3 h hu hb he hag hc]; simp, k⟩
end Go.Pt
end
section
set_option linter.unusedVariables false
set_option linter.unusedSimpArgs false
namespace Go.Proofs.YtmbcedengdoamaaGreatDoor
open Go Go.Pt Go.Sort
attribute [local irreducible] ld ldA st new idx idxS idxA slc slcS slcP mkS chk nn call callV inv run runQ runU join loop held IntKind.wrap
def plB (rb len cap : Nat) (m : Value) : Obj := .cells #[.slice (some ⟨rb, 0, none⟩) len cap, m] 172 (0, 0)
section
variable {pb rb len cap : Nat} {m : Value} {w0 w : World} {d : Array Int} {T : TypeId}
theorem qli (hp : w0.heap[pb]? = some (plB rb len cap m)) (hne : rb ≠ pb) (h : Arr rb T w0 w d) : w.cell? ⟨pb, 0, none⟩ = some (.slice (some ⟨rb, 0, none⟩) len cap) := by
 have h1 : w.heap[pb]? = some (plB rb len cap m) := by
  rw [h.fr.block pb (qac hp) (by simpa using fun e => hne e.symm)]
  exact hp
 rw [qaj h1]
 rfl
theorem qqA {i k : Nat} {K : Bool -> World -> Prop} (hp : w0.heap[pb]? = some (plB rb len cap m)) (hne : rb ≠ pb) (h : Arr rb T w0 w d) (hi : i < len) (hk : k < len) (hl : len <= d.size /\ len <= 1152921504606846976)
  (hK : ∀ w', Arr rb T w0 w' d -> K (ltInt d[i]! d[k]!) w') :
  inv Tryz.prog (.iface 175 (.pointer (some ⟨pb, 0, none⟩))) "Less" [.int .i64 i, .int .i64 k] [.one .bool] w K := by
 refine qmN (f := 195) (by kernel_rfl) (e := 169) (by kernel_rfl) (by kernel_rfl) (by kernel_rfl) (by kernel_rfl) (qli hp hne h) ?_
 refine qlA (r := ⟨some ⟨rb, 0, none⟩, len, cap⟩) ?_
 unfold qe8
 refine h.drew.rd i rfl hi hl ?_
 refine h.drew.rd k rfl hk hl ?_
 exact hK _ h.drew
theorem qp6 {i k : Nat} {K : Unit -> World -> Prop} (hp : w0.heap[pb]? = some (plB rb len cap m)) (hne : rb ≠ pb) (h : Arr rb T w0 w d) (hi : i < len) (hk : k < len) (hl : len <= d.size /\ len <= 1152921504606846976)
  (hK : ∀ w', Arr rb T w0 w' (swp d i k) -> K () w') :
  inv Tryz.prog (.iface 175 (.pointer (some ⟨pb, 0, none⟩))) "Swap" [.int .i64 i, .int .i64 k] [] w K := by
 refine qmN (f := 196) (by kernel_rfl) (e := 169) (by kernel_rfl) (by kernel_rfl) (by kernel_rfl) (by kernel_rfl) (qli hp hne h) ?_
 refine qlp (r := ⟨some ⟨rb, 0, none⟩, len, cap⟩) ?_
 unfold qe7
 exact h.drew.swap i k rfl rfl hi hk hl hK
theorem qte {K : Int -> World -> Prop} (hp : w0.heap[pb]? = some (plB rb len cap m)) (hne : rb ≠ pb) (h : Arr rb T w0 w d) (hK : K len w) :
  inv Tryz.prog (.iface 175 (.pointer (some ⟨pb, 0, none⟩))) "Len" [] [.one (.int .i64)] w K := by
 refine qmN (f := 194) (by kernel_rfl) (e := 169) (by kernel_rfl) (by kernel_rfl) (by kernel_rfl) (by kernel_rfl) (qli hp hne h) ?_
 refine qmo (r := ⟨some ⟨rb, 0, none⟩, len, cap⟩) ?_
 unfold qfM
 exact hK
end
section
def IsHeap (d : Array Int) (n : Nat) : Prop := ∀ i, 0 < i -> i < n -> d[(i - 1) / 2]! <= d[i]!
def UpAt (d : Array Int) (n j : Nat) : Prop := (∀ i, 0 < i -> i < n -> i ≠ j -> d[(i - 1) / 2]! <= d[i]!) /\ ∀ i, 0 < i -> i < n -> (i - 1) / 2 = j -> 0 < j -> d[(j - 1) / 2]! <= d[i]!
def DownAt (d : Array Int) (n j : Nat) : Prop := (∀ i, 0 < i -> i < n -> (i - 1) / 2 ≠ j -> d[(i - 1) / 2]! <= d[i]!) /\ ∀ i, 0 < i -> i < n -> (i - 1) / 2 = j -> 0 < j -> d[(j - 1) / 2]! <= d[i]!
theorem qeA (d : Array Int) {i j : Nat} (hi : i < d.size) (hj : j < d.size) (k : Nat) : (swp d i j)[k]! = if k = j then d[i]! else if k = i then d[j]! else d[k]! := swp_get d hi hj k
theorem UpAt.step {d : Array Int} {n j : Nat} (h : UpAt d n j) (hj : 0 < j) (hjn : j < n) (hn : n <= d.size) (hlt : d[j]! < d[(j - 1) / 2]!) : UpAt (swp d ((j - 1) / 2) j) n ((j - 1) / 2) := by
 have hp : (j - 1) / 2 < d.size := by omega
 have hq : j < d.size := by omega
 have hne : (j - 1) / 2 ≠ j := by omega
 constructor
 ·intro i h0 hi hij
  have a1 := h.1 i h0 hi
  have a2 := h.2 i h0 hi
  rw [qeA d hp hq, qeA d hp hq]
  by_cases e1 : i = j
  ·subst e1
   rw [if_neg (by omega), if_pos rfl, if_pos rfl]
   omega
  ·rw [if_neg e1, if_neg hij]
   by_cases e2 : (i - 1) / 2 = j
   ·rw [if_pos e2]; exact a2 e2 hj
   ·rw [if_neg e2]
    by_cases e3 : (i - 1) / 2 = (j - 1) / 2
    ·rw [if_pos e3]
     have := a1 e1
     rw [e3] at this
     omega
    ·rw [if_neg e3]; exact a1 e1
 ·intro i h0 hi hip hjp
  have a1 := h.1 i h0 hi
  have b1 := h.1 ((j - 1) / 2) hjp (by omega) hne
  rw [qeA d hp hq, qeA d hp hq]
  rw [if_neg (by omega), if_neg (by omega)]
  by_cases e1 : i = j
  ·subst e1; rw [if_pos rfl]; exact b1
  ·rw [if_neg e1, if_neg (by omega)]
   have := a1 e1
   rw [hip] at this
   omega
theorem UpAt.stop {d : Array Int} {n j : Nat} (h : UpAt d n j) (hs : j = 0 \/ d[(j - 1) / 2]! <= d[j]!) : IsHeap d n := by
 intro i h0 hi
 by_cases e : i = j
 ·subst e
  rcases hs with hs | hs
  ·omega
  ·exact hs
 ·exact h.1 i h0 hi e
theorem DownAt.step {d : Array Int} {n i c : Nat} (h : DownAt d n i) (hc : c = 2 * i + 1 \/ c = 2 * i + 2) (hcn : c < n) (hn : n <= d.size) (hlt : d[c]! < d[i]!) (hmin : ∀ k, k < n -> (k = 2 * i + 1 \/ k = 2 * i + 2) -> d[c]! <= d[k]!) : DownAt (swp d i c) n c := by
 have hp : i < d.size := by omega
 have hq : c < d.size := by omega
 constructor
 ·intro k h0 hk hkc
  have a1 := h.1 k h0 hk
  have a2 := h.2 k h0 hk
  rw [qeA d hp hq, qeA d hp hq, if_neg hkc]
  by_cases e1 : k = c
  ·rw [if_pos e1, if_pos (by omega)]; omega
  ·rw [if_neg e1]
   by_cases e2 : k = i
   ·rw [if_pos e2]
    subst e2
    rw [if_neg (by omega)]
    exact h.2 c (by omega) hcn (by omega) h0
   ·rw [if_neg e2]
    by_cases e3 : (k - 1) / 2 = i
    ·rw [if_pos e3]; exact hmin k hk (by omega)
    ·rw [if_neg e3]; exact a1 e3
 ·intro k h0 hk hkc hc0
  have a1 := h.1 k h0 hk (by omega)
  rw [qeA d hp hq, qeA d hp hq]
  rw [if_neg (by omega), if_pos (by omega), if_neg (by omega), if_neg (by omega)]
  rw [hkc] at a1
  exact a1
theorem DownAt.stop {d : Array Int} {n i : Nat} (h : DownAt d n i) (hs : ∀ k, k < n -> (k = 2 * i + 1 \/ k = 2 * i + 2) -> d[i]! <= d[k]!) : IsHeap d n := by
 intro k h0 hk
 by_cases e : (k - 1) / 2 = i
 ·rw [e]; exact hs k hk (by omega)
 ·exact h.1 k h0 hk e
section
variable {pb rb len cap : Nat} {m : Value} {w0 w : World} {d : Array Int} {T : TypeId}
theorem qtP {j : Nat} {K : Unit -> World -> Prop} (hp : w0.heap[pb]? = some (plB rb len cap m)) (hne : rb ≠ pb) (h : Arr rb T w0 w d) (hj : j < len) (hl : len <= d.size /\ len <= 1152921504606846976) (hu : UpAt d len j)
  (hk : ∀ d' w', PermIn 0 len d d' -> IsHeap d' len -> Arr rb T w0 w' d' -> K () w') :
  call Tryz.prog 127 [.iface 175 (.pointer (some ⟨pb, 0, none⟩)), .int .i64 j] [] w K := by
 apply qqj
 unfold qlz
 refine qaf (fun x w' => ∃ (j : Nat) (d' : Array Int), x = j /\ j < len /\ PermIn 0 len d d' /\ UpAt d' len j /\ Arr rb T w0 w' d') (fun x _ => x.toNat) ⟨j, d, rfl, hj, permIn_refl _ _ _, hu, h⟩ ?_
 rintro x w1 ⟨j, d1, rfl, hj, hpm, hu, h⟩ X hX
 have hs := hpm.1
 have e1 : IntKind.i64.wrap (Int.tdiv (IntKind.i64.wrap ((j : Int) - 1)) 2) = (((j - 1) / 2 : Nat) : Int) := by
  rw [wi ((j : Int) - 1) (by omega)]
  by_cases h0 : j = 0
  ·subst h0; decide +kernel
  ·rw [Int.tdiv_eq_ediv_of_nonneg (by omega), wi _ (by omega)]; omega
 rw [e1]
 refine qae (fun c w' => c = (decide (j = 0) || !ltInt d1[j]! d1[(j - 1) / 2]!) /\ Arr rb T w0 w' d1) ?_ ?_
 ·refine qaa (fun hc => ?_) (fun hc => ?_)
  ·have h0 : j = 0 := by have := beq_iff_eq.1 hc; omega
   exact ⟨by simp [h0], h⟩
  ·have h0 : j ≠ 0 := fun e => by subst e; cases hc
   refine qqA hp hne h hj (by omega) (by omega) fun w2 h => ?_
   exact ⟨by simp [h0], h⟩
 ·rintro c w2 ⟨rfl, h⟩
  refine qaa (fun hc => ?_) (fun hc => ?_)
  ·simp only [Bool.or_eq_true, decide_eq_true_eq, Bool.not_eq_true', ltInt, decide_eq_false_iff_not, Int.not_lt] at hc
   exact hk _ _ hpm (hu.stop hc) h
  ·simp only [Bool.or_eq_false_iff, decide_eq_false_iff_not, Bool.not_eq_false', ltInt, decide_eq_true_eq] at hc
   refine qp6 hp hne h (by omega) hj (by omega) fun w3 h => ?_
   exact hX _ _ ⟨_, _, rfl, by omega, permIn_trans _ _ _ _ _ hpm (swp_permIn _ _ _ _ _ (by omega) (by omega) (by omega) hj (by omega)), hu.step (by omega) hj (by omega) hc.2, h⟩ (by omega)
theorem qsV {n : Nat} {K : Bool -> World -> Prop} (hp : w0.heap[pb]? = some (plB rb len cap m)) (hne : rb ≠ pb) (h : Arr rb T w0 w d) (hn : n <= len) (hl : len <= d.size /\ len <= 1152921504606846976) (hu : DownAt d n 0)
  (hk : ∀ b d' w', PermIn 0 n d d' -> IsHeap d' n -> Arr rb T w0 w' d' -> K b w') :
  call Tryz.prog 126 [.iface 175 (.pointer (some ⟨pb, 0, none⟩)), .int .i64 0, .int .i64 n] [.one .bool] w K := by
 apply qow
 unfold qii
 refine qae (fun _ w' => ∃ d', PermIn 0 n d d' /\ IsHeap d' n /\ Arr rb T w0 w' d') ?_ (fun x w' ⟨d', h1, h2, h3⟩ => hk _ d' w' h1 h2 h3)
 refine qaf (fun x w' => ∃ (i : Nat) (d' : Array Int), x = i /\ (i < n \/ i = 0) /\ PermIn 0 n d d' /\ DownAt d' n i /\ Arr rb T w0 w' d') (fun x _ => ((n : Int) - x).toNat) ⟨0, d, rfl, .inr rfl, permIn_refl _ _ _, hu, h⟩ ?_
 rintro x w1 ⟨i, d1, rfl, hi, hpm, hu, h⟩ X hX
 have hs := hpm.1
 have e1 : IntKind.i64.wrap (IntKind.i64.wrap (2 * (i : Int)) + 1) = ((2 * i + 1 : Nat) : Int) := by rw [wi (2 * (i : Int)) (by omega), wi _ (by omega)]; omega
 have e2 : IntKind.i64.wrap (((2 * i + 1 : Nat) : Int) + 1) = ((2 * i + 2 : Nat) : Int) := by rw [wi _ (by omega)]; omega
 rw [e1, e2]
 refine qae (fun c w' => c = decide (n <= 2 * i + 1) /\ Arr rb T w0 w' d1) ?_ ?_
 ·refine qaa (fun hc => ?_) (fun hc => ?_)
  ·have h0 : n <= 2 * i + 1 := by have := of_decide_eq_true hc; omega
   exact ⟨by simp [h0], h⟩
  ·have h0 : ¬ n <= 2 * i + 1 := by have := of_decide_eq_false hc; omega
   refine ⟨?_, h⟩
   rw [decide_eq_false h0, decide_eq_false (by omega)]
 rintro c w2 ⟨rfl, h⟩
 refine qaa (fun hc => ?_) (fun hc => ?_)
 ·have h0 := of_decide_eq_true hc
  exact ⟨d1, hpm, hu.stop (fun k hk hk2 => by omega), h⟩
 have h0 : 2 * i + 1 < n := by have := of_decide_eq_false hc; omega
 refine qae (fun x w' => ∃ c : Nat, x = c /\ (c = 2 * i + 1 \/ c = 2 * i + 2) /\ c < n /\ (∀ k, k < n -> (k = 2 * i + 1 \/ k = 2 * i + 2) -> d1[c]! <= d1[k]!) /\ Arr rb T w0 w' d1) ?_ ?_
 ·refine qae (fun c w' => c = (decide (2 * i + 2 < n) && ltInt d1[2 * i + 2]! d1[2 * i + 1]!) /\ Arr rb T w0 w' d1) ?_ ?_
  ·refine qaa (fun hc => ?_) (fun hc => ?_)
   ·have h2 : 2 * i + 2 < n := by have := of_decide_eq_true hc; omega
    refine qqA hp hne h (by omega) (by omega) (by omega) fun w3 h => ?_
    exact ⟨by simp [h2], h⟩
   ·have h2 : ¬ 2 * i + 2 < n := by have := of_decide_eq_false hc; omega
    exact ⟨by simp [h2], h⟩
  ·rintro c w3 ⟨rfl, h⟩
   refine qaa (fun hc => ?_) (fun hc => ?_)
   ·simp only [Bool.and_eq_true, decide_eq_true_eq, ltInt] at hc
    refine ⟨2 * i + 2, rfl, .inr rfl, hc.1, fun k hk hk2 => ?_, h⟩
    rcases hk2 with rfl | rfl <;> omega
   ·simp only [Bool.and_eq_false_iff, decide_eq_false_iff_not, ltInt, Int.not_lt] at hc
    refine ⟨2 * i + 1, rfl, .inl rfl, h0, fun k hk hk2 => ?_, h⟩
    rcases hk2 with rfl | rfl <;> omega
 rintro x w3 ⟨c, rfl, hcc, hcn, hmin, h⟩
 refine qqA hp hne h (by omega) (by omega) (by omega) fun w4 h => ?_
 refine qaa (fun hc => ?_) (fun hc => ?_)
 ·simp only [Bool.not_eq_true', ltInt, decide_eq_false_iff_not, Int.not_lt] at hc
  exact ⟨d1, hpm, hu.stop (fun k hk hk2 => Int.le_trans hc (hmin k hk hk2)), h⟩
 ·simp only [Bool.not_eq_false', ltInt, decide_eq_true_eq] at hc
  refine qp6 hp hne h (by omega) (by omega) (by omega) fun w5 h => ?_
  exact hX _ _ ⟨c, _, rfl, .inl hcn, permIn_trans _ _ _ _ _ hpm (swp_permIn _ _ _ _ _ (by omega) (by omega) (by omega) hcn (by omega)), hu.step hcc hcn (by omega) hc hmin, h⟩ (by omega)
end
end
end Go.Proofs.YtmbcedengdoamaaGreatDoor
end
section
set_option linter.unusedVariables false
namespace Go.Pt
open Go
structure KeyOk {α : Type} [DecidableEq α] (P : Program) (kt : TypeId) (kv : α -> Value) : Prop where
 desc : ∃ d, P.underlying kt = some d /\ ∀ a b, Instr.sameNow d (kv a) (kv b) = some (decide (a = b))
 check : ∀ e a w, (Instr.checkKey e 10000 kt (kv a)).run P w = .ok () w
 stays : ∀ a w, (Instr.keyThatStays (kv a) (kv a)).run P w = .ok (kv a) w
theorem qrE {P : Program} {kt : TypeId} {k : IntKind} (h : P.underlying kt = some (.int k)) : KeyOk P kt (fun n : Int => Value.int k n) where
 desc := ⟨_, h, fun a b => by simp [Instr.sameNow]; rfl⟩
 check := fun e a w => Go.MapKept.run_checkKey h (by simp [Go.MapKept.IsKey]) e 9999
 stays := fun a w => by simp [Instr.keyThatStays, Instr.sameBits]
section
variable {α : Type} [DecidableEq α]
theorem qbO {β γ : Type} (g : β -> γ) : ∀ (l : List β) (i : Nat), (l.eraseIdx i).map g = (l.map g).eraseIdx i
 | [], _ => rfl
 | _ :: _, 0 => rfl
 | a :: l, i + 1 => by simp only [List.eraseIdx_cons_succ, List.map_cons, qbO g l i]
def Ents (kv : α -> Value) (es : List MapEntry) (f : List (α × Value)) : Prop := es.map (fun e => (e.key, e.val)) = f.map (fun p => (kv p.1, p.2))
def posOf (x : α) : List (α × Value) -> Option (Nat × Value)
 | [] => none
 | p :: r => if x = p.1 then some (0, p.2) else (posOf x r).map fun q => (q.1 + 1, q.2)
theorem qkS {kv : α -> Value} {d : TypeDesc} (hd : ∀ a b, Instr.sameNow d (kv a) (kv b) = some (decide (a = b))) (x : α) : ∀ (es : List MapEntry) (f : List (α × Value)) (i : Nat), Ents kv es f ->
  Instr.findNow d (kv x) es i = some ((posOf x f).map fun q => (i + q.1, q.2))
 | [], [], i, _ => rfl
 | [], _ :: _, _, h => by simp [Ents] at h
 | _ :: _, [], _, h => by simp [Ents] at h
 | e :: es, p :: f, i, h => by
  simp only [Ents, List.map_cons, List.cons.injEq, Prod.mk.injEq] at h
  obtain ⟨⟨h1, h2⟩, h3⟩ := h
  simp only [Instr.findNow, h1, hd, posOf]
  by_cases hx : x = p.1
  ·simp [hx, h2]
  ·simp only [hx, decide_false, if_false]
   rw [qkS hd x es f (i + 1) h3]
   cases posOf x f with
   | none => rfl
   | some q => simp; omega
variable {P : Program} {w : World} {kt : TypeId} {kv : α -> Value}
theorem qaP (K : KeyOk P kt kv) {es : List MapEntry} {f : List (α × Value)} (h : Ents kv es f) (x : α) : (Instr.findKey kt (kv x) es).run P w = .ok (posOf x f) w := by
 obtain ⟨d, hd, hs⟩ := K.desc
 unfold Instr.findKey
 simp only [Sem.run_bind, run_underlying hd, Result.andThen_ok, qkS hs x es f 0 h, Sem.run_pure]
 congr 1
 cases posOf x f with
 | none => rfl
 | some q => simp
def MapAt (kv : α -> Value) (w : World) (b : Nat) (f : List (α × Value)) : Prop := ∃ es c, w.heap[b]? = some (.map es c) /\ Ents kv es.toList f
theorem qgg {t et : TypeId} {z : Value} (ht : P.underlying t = some (.map kt et)) (hz : ∀ w, (zeroValue et).run P w = .ok z w) (K : KeyOk P kt kv) {b : Nat} {f : List (α × Value)} (h : MapAt kv w b f) (x : α) :
  (Instr.lookup t (.map (some b)) (kv x) false).run P w = .ok (match posOf x f with | some q => q.2 | none => z) w := by
 obtain ⟨es, c, hb, he⟩ := h
 cases hp : posOf x f with
 | none => simp [Instr.lookup, run_underlying ht, Go.MapKept.run_getObj_map hb, K.check, qaP K he, hp, hz]
 | some q => simp [Instr.lookup, run_underlying ht, Go.MapKept.run_getObj_map hb, K.check, qaP K he, hp]
theorem qou {t et : TypeId} {z : Value} (ht : P.underlying t = some (.map kt et)) (hz : ∀ w, (zeroValue et).run P w = .ok z w) (K : KeyOk P kt kv) {b : Nat} {f : List (α × Value)} (h : MapAt kv w b f) (x : α) :
  (Instr.lookup t (.map (some b)) (kv x) true).run P w = .ok (match posOf x f with | some q => .tuple #[q.2, .bool true] | none => .tuple #[z, .bool false]) w := by
 obtain ⟨es, c, hb, he⟩ := h
 cases hp : posOf x f with
 | none => simp [Instr.lookup, run_underlying ht, Go.MapKept.run_getObj_map hb, K.check, qaP K he, hp, hz]
 | some q => simp [Instr.lookup, run_underlying ht, Go.MapKept.run_getObj_map hb, K.check, qaP K he, hp]
theorem qqm {t et : TypeId} {v : Value} (ht : P.underlying t = some (.map kt et)) (K : KeyOk P kt kv) {b : Nat} {f : List (α × Value)} (h : MapAt kv w b f) (x : α) (hx : posOf x f = none) :
  ∃ o, (Instr.mapUpdate t (.map (some b)) (kv x) v).run P w = .ok () (upd w b o) /\ MapAt kv (upd w b o) b (f ++ [(x, v)]) := by
 obtain ⟨es, c, hb, he⟩ := h
 refine ⟨.map (es.push ⟨kv x, v, c⟩) (c + 1), ?_, es.push ⟨kv x, v, c⟩, c + 1, ?_, ?_⟩
 ·simp [Instr.mapUpdate, run_underlying ht, Go.MapKept.run_getObj_map hb, K.check, qaP K he, hx, Go.MapKept.run_setObj_map _ hb]
  rfl
 ·rw [qaD _ _ _ _ (qac hb), if_pos rfl]
 ·simp only [Ents] at he ⊢
  simp [he]
theorem qqa {t et ty : TypeId} (ht : P.underlying t = some (.map kt et)) (K : KeyOk P kt kv) {b : Nat} {f : List (α × Value)} (h : MapAt kv w b f) (x : α) :
  ∃ o, (Builtin.delete_ #[t, kt] ty #[.map (some b), kv x]).run P w = .ok (.tuple #[]) (upd w b o) /\ MapAt kv (upd w b o) b (match posOf x f with | some q => f.eraseIdx q.1 | none => f) := by
 obtain ⟨es, c, hb, he⟩ := h
 cases hp : posOf x f with
 | none =>
  refine ⟨.map es c, ?_, es, c, ?_, he⟩
  ·simp [Builtin.delete_, run_underlying ht, Go.MapKept.run_getObj_map hb, K.check, qaP K he, hp, Go.MapKept.run_setObj_map _ hb]
   rfl
  ·rw [qaD _ _ _ _ (qac hb), if_pos rfl]
 | some q =>
  refine ⟨.map (es.eraseIdxIfInBounds q.1) c, ?_, es.eraseIdxIfInBounds q.1, c, ?_, ?_⟩
  ·simp [Builtin.delete_, run_underlying ht, Go.MapKept.run_getObj_map hb, K.check, qaP K he, hp, Go.MapKept.run_setObj_map _ hb]
   rfl
  ·rw [qaD _ _ _ _ (qac hb), if_pos rfl]
  ·have h1 : (es.eraseIdxIfInBounds q.1).toList = es.toList.eraseIdx q.1 := by simp
   rw [h1]
   simp only [Ents] at he ⊢
   rw [qbO, he, <- qbO]
end
end Go.Pt
end
section
set_option linter.unusedVariables false
set_option linter.unusedSimpArgs false
namespace Go.Proofs.YtmbcedengdoamaaGreatDoor
open Go Go.Pt Go.Sort
attribute [local irreducible] ld ldA st new idx idxS idxA slc slcS slcP mkS chk nn call callV inv run runQ runU join loop held IntKind.wrap
abbrev PT : TypeId := 172
abbrev u32V : Int -> Value := fun n => Value.int .u32 n
def RowAt (w : World) (pb : Nat) (m : Value) (F : List Nat) (d : Array Int) (n : Nat) : Prop :=
 (n = 0 /\ d = #[] /\ F = [] /\ w.heap[pb]? = some (.cells #[.slice none 0 0, m] PT (0, 0))) \/
 ∃ rb T, F = [rb] /\ w.heap[pb]? = some (plB rb n d.size m) /\ w.heap[rb]? = some (.cells (u32s d) T (0, 0)) /\ rb ≠ pb /\ n <= d.size
structure PoolAt (w : World) (pb : Nat) (F : List Nat) (l : List Int) : Prop where
 ex : ∃ (mb : Nat) (R : List Nat) (d : Array Int) (f : List (Int × Value)), F = pb :: mb :: R /\ RowAt w pb (.map (some mb)) R d l.length /\ MapAt u32V w mb f /\
  (d.toList.take l.length).Perm l /\ IsHeap d l.length /\ (f.map (·.1)).Perm l /\ ∀ p ∈ f, p.2 = .int .i64 1
 sorted : l.Pairwise (· < ·)
theorem qds : KeyOk Tryz.prog 29 u32V := qrE (by kernel_rfl)
theorem qhk {x : Int} : ∀ {f : List (Int × Value)}, (∀ p ∈ f, p.2 = Value.int .i64 1) -> (posOf x f = none /\ x ∉ f.map (·.1)) \/ ∃ j, posOf x f = some (j, .int .i64 1) /\ x ∈ f.map (·.1) /\ (f.map (·.1))[j]? = some x
 | [], _ => .inl ⟨rfl, by simp⟩
 | p :: f, h => by
  simp only [posOf]
  by_cases hx : x = p.1
  ·rw [if_pos hx, h p (by simp)]
   exact .inr ⟨0, rfl, by simp [hx], by simp [hx]⟩
  ·rw [if_neg hx]
   rcases qhk (x := x) (f := f) (fun q hq => h q (List.mem_cons_of_mem _ hq)) with ⟨h1, h2⟩ | ⟨j, h1, h2, h3⟩
   ·rw [h1]
    exact .inl ⟨rfl, by simp only [List.map_cons, List.mem_cons]; rintro (e | e); exact hx e; exact h2 e⟩
   ·rw [h1]
    exact .inr ⟨j + 1, rfl, by simp only [List.map_cons, List.mem_cons]; exact .inr h2, by simpa using h3⟩
theorem PoolAt.cells {w : World} {pb : Nat} {F : List Nat} {l : List Int} (h : PoolAt w pb F l) : ∃ (s : Sl) (mb : Nat), w.heap[pb]? = some (.cells #[.slice s.a s.len s.cap, .map (some mb)] PT (0, 0)) /\ s.len = l.length /\ mb ∈ F := by
 obtain ⟨mb, R, d, f, rfl, hr, _⟩ := h.ex
 rcases hr with ⟨h0, _, _, hb⟩ | ⟨rb, T, _, hb, _⟩
 ·exact ⟨⟨none, 0, 0⟩, mb, hb, h0.symm, by simp⟩
 ·exact ⟨⟨some ⟨rb, 0, none⟩, _, _⟩, mb, hb, rfl, by simp⟩
theorem qhM {w : World} {K : Option Addr -> World -> Prop} (hk : ∀ pb F w', PoolAt w' pb F [] -> Fr [] w w' -> (∀ b ∈ F, w.heap.size <= b) -> K (some ⟨pb, 0, none⟩) w') : call Tryz.prog 100 [] [.one .ptr] w K := by
 apply qpt
 unfold qjU
 have h := Own.start [] w
 refine Own.new h fun mb w1 em sm h => ?_
 refine Own.new h fun pb w2 ep sp h => ?_
 refine hk pb [pb, mb] w2 ⟨⟨mb, [], #[], [], rfl, .inl ⟨rfl, rfl, rfl, ?_⟩, ⟨#[], 0, ?_, rfl⟩, by simp, fun i h0 hi => by simp at hi, by simp, by simp⟩, List.Pairwise.nil⟩ h.fr ?_
 ·exact h.at (i := 0) rfl
 ·exact h.at (i := 1) rfl
 ·intro b hb
  simp at hb
  omega
theorem qsZ {w : World} {pb : Nat} {F : List Nat} {l : List Int} {K : Int -> World -> Prop} (h : PoolAt w pb F l) (hk : K l.length w) : call Tryz.prog 43 [.pointer (some ⟨pb, 0, none⟩)] [.one (.int .i64)] w K := by
 refine qlc (p := some ⟨pb, 0, none⟩) ?_
 unfold qfe
 obtain ⟨s, mb, hb, hl, _⟩ := h.cells
 refine qad ?_
 refine qag (c := .slice) hb s rfl ?_
 rw [hl]; exact hk
theorem qox {w : World} {pb : Nat} {F : List Nat} {l : List Int} {n : Int} {K : Bool -> World -> Prop} (h : PoolAt w pb F l) (hk : K (decide (n ∈ l)) w) : call Tryz.prog 93 [.pointer (some ⟨pb, 0, none⟩), .int .u32 n] [.one .bool] w K := by
 refine qk8 (p := some ⟨pb, 0, none⟩) ?_
 unfold qe5
 obtain ⟨mb, R, d, f, rfl, hr, hm, _, _, hf, h1⟩ := h.ex
 have hb : ∃ s : Sl, w.heap[pb]? = some (.cells #[.slice s.a s.len s.cap, .map (some mb)] PT (0, 0)) := by
  rcases hr with ⟨h0, _, _, hb⟩ | ⟨rb, T, _, hb, _⟩
  ·exact ⟨⟨none, 0, 0⟩, hb⟩
  ·exact ⟨⟨some ⟨rb, 0, none⟩, _, _⟩, hb⟩
 obtain ⟨s, hb⟩ := hb
 refine qad ?_
 refine qag (c := .map) hb (some mb) rfl ?_
 unfold runQ
 rcases qhk (x := n) h1 with ⟨hp, hx⟩ | ⟨j, hp, hx, _⟩
 ·refine ⟨0, ?_, ?_⟩
  ·have := qgg (P := Tryz.prog) (w := w) (t := 170) (et := 3) (z := .int .i64 0) (by kernel_rfl) (fun w => by kernel_rfl) qds hm n
   rw [hp] at this
   exact this
  ·rw [show decide (n ∈ l) = false by rw [decide_eq_false_iff_not]; exact fun e => hx (hf.mem_iff.2 e)] at hk
   exact hk
 ·refine ⟨1, ?_, ?_⟩
  ·have := qgg (P := Tryz.prog) (w := w) (t := 170) (et := 3) (z := .int .i64 0) (by kernel_rfl) (fun w => by kernel_rfl) qds hm n
   rw [hp] at this
   exact this
  ·rw [show decide (n ∈ l) = true by rw [decide_eq_true_iff]; exact hf.mem_iff.1 hx] at hk
   exact hk
theorem qkj : ∃ i, Tryz.prog.info? 29 = some i /\ i.zero = some (.int .u32 0) /\ i.size = 1 /\ i.bytes = 4 := qeX (by kernel_rfl)
theorem qlF (v : Value) (k : Nat) (h : v.cells = #[v]) : Builtin.zeroCells v.cells k = Array.replicate k v := by
 rw [h]
 apply Array.ext
 ·simp [Builtin.zeroCells]
 ·intro i h1 h2
  simp [Builtin.zeroCells, Nat.mod_one]
theorem qkh (l : List Int) : u32s l.toArray = (l.map (Value.int .u32)).toArray := by simp [u32s]
theorem qe2 {d : Array Int} {l : List Int} {n i : Nat} (h : d.toList.take n = l) (hi : i < n) (hd : n <= d.size) : l[i]? = some d[i]! := by
 rw [<- h, List.getElem?_take, if_pos hi]
 simp [show i < d.size by omega]
theorem qoW {α : Type} (x : α) : ∀ (l : List α) (n : Nat), n < l.length -> (l.set n x).take (n + 1) = l.take n ++ [x]
 | a :: l, 0, _ => by simp
 | a :: l, n + 1, h => by simpa using qoW x l n (by simpa using h)
theorem qtQ {w : World} {pb : Nat} {mb : Value} {R : List Nat} {d : Array Int} {n : Nat} {x : Int} {K : Unit -> World -> Prop} (h : RowAt w pb mb R d n) (hn : n <= 1000000)
  (hk : ∀ R' d' w', RowAt w' pb mb R' d' (n + 1) -> d'.toList.take (n + 1) = d.toList.take n ++ [x] -> Fr (pb :: R) w w' -> (∀ b ∈ R', b ∈ R \/ w.heap.size <= b) -> K () w') :
  inv Tryz.prog (.iface 175 (.pointer (some ⟨pb, 0, none⟩))) "Push" [.iface 29 (.int .u32 x)] [] w K := by
 obtain ⟨i31, hi, hz, hsz, hby⟩ := qkj
 refine qpE (f := 198) (by kernel_rfl) (e := 169) (by kernel_rfl) (by kernel_rfl) ?_
 refine qlm (r := some ⟨pb, 0, none⟩) ?_
 unfold qfh
 have ta : (Instr.typeAssert (.iface 29 (.int .u32 x)) 20 29 true).run Tryz.prog w = .ok (.tuple #[.int .u32 x, .bool true]) w := by kernel_rfl
 refine qay (ts := [.one (.int .u32), .one .bool]) (x, true) ta ?_
 refine cond_true rfl ?_
 refine qad ?_
 have zc : ∀ k, Builtin.zeroCells (Value.int .u32 0).cells k = Array.replicate k (.int .u32 0) := fun k => qlF _ k rfl
 rcases h with ⟨h0, hd, hR, hb⟩ | ⟨rb, T, hR, hb, hrb, hne, hnd⟩
 ·-- nil
  subst h0 hd hR
  refine qag (c := .slice) hb ⟨none, 0, 0⟩ rfl ?_
  have ho : Own [pb] w w [(pb, .cells #[.slice none 0 0, mb] PT (0, 0))] := ⟨by simpa using hb, by simp, .refl _ _, by simp⟩
  refine Own.new ho fun tb w1 et st1 ho => ?_
  refine qsX (P := Tryz.prog) (e := 29) (by kernel_rfl) hi hz [.int .u32 x] (by rw [hsz]; rfl) (fun j u hj => ?_) (by omega) (by rw [hby]; omega) (by omega) fun q hq1 hq2 => ?_
  ·match j, hj with
   | 0, hj =>
    have := ho.cell (off := 0) 0 rfl rfl
    simp at hj
    subst hj
    exact this
   | j + 1, hj => simp at hj
  rw [zc]
  have ho := ho.drew.alloc (.cells (#[Value.int .u32 x] ++ Array.replicate (q - 1) (.int .u32 0)) 29 (0, 0))
  refine qad ?_
  refine Own.st ho 2 rfl _ rfl rfl rfl fun w2 ho _ => ?_
  have hnp : w1.drew.heap.size ≠ pb := by
   have := ho.nodup
   simp at this
   exact fun e => this.1.2 e
  have hd' : #[Value.int .u32 x] ++ Array.replicate (q - 1) (.int .u32 0) = u32s (([x] ++ List.replicate (q - 1) 0).toArray) := by
   rw [qkh]
   apply Array.ext'
   simp
  refine hk [w1.drew.heap.size] (([x] ++ List.replicate (q - 1) 0).toArray) w2 (.inr ⟨w1.drew.heap.size, 29, rfl, ?_, ?_, hnp, by simp⟩) (by simp) (ho.fr.mono (fun i hi _ => by simpa using hi)) (fun b hb => ?_)
  ·have := ho.at (i := 2) rfl
   have e : (([x] ++ List.replicate (q - 1) (0 : Int)).toArray).size = q := by simp; omega
   rw [e]
   exact this
  ·have := ho.at (i := 0) rfl
   rw [<- hd']
   exact this
  ·simp at hb
   subst hb
   right
   have := ho.own (w1.drew.heap.size, _) (by simp; exact .inl rfl)
   simp at this
   omega
 ·subst hR
  refine qag (c := .slice) hb ⟨some ⟨rb, 0, none⟩, n, d.size⟩ rfl ?_
  dsimp only
  have ho : Own [pb, rb] w w [(pb, plB rb n d.size mb), (rb, .cells (u32s d) T (0, 0))] := ⟨by simpa using ⟨hb, hrb⟩, by simpa using fun e => hne e.symm, .refl _ _, by simp⟩
  refine Own.new ho fun tb w1 et st1 ho => ?_
  have hnews : ∀ (j : Nat) u, [Value.int .u32 x][j]? = some u -> w1.cell? ((⟨tb, 0, none⟩ : Addr).add j) = some u := fun j u hj => by
   match j, hj with
   | 0, hj =>
    have := ho.cell (off := 0) 0 rfl rfl
    simp at hj
    subst hj
    exact this
   | j + 1, hj => simp at hj
  by_cases hroom : n + 1 <= d.size
  ·refine qpT (P := Tryz.prog) (e := 29) (by kernel_rfl) hi [.int .u32 x] (ho.at (i := 2) rfl) (by rw [hsz]; rfl) hnews (by simp [Value.oneCell']) hroom (by rw [hsz, qd9]; simp; omega) ?_
   have hsp : splice (u32s d) (0 + n * i31.size) [.int .u32 x] = u32s (d.setIfInBounds n x) := by
    rw [hsz, Nat.zero_add, Nat.mul_one]
    exact qoL d n x
   rw [hsp]
   have ho := ho.upd (o' := .cells (u32s (d.setIfInBounds n x)) T (0, 0)) 2 rfl
   refine qad ?_
   refine Own.st ho 1 rfl _ rfl rfl rfl fun w2 ho _ => ?_
   refine hk [rb] (d.setIfInBounds n x) w2 (.inr ⟨rb, T, rfl, ?_, ?_, hne, by simpa using hroom⟩) ?_ (ho.fr.mono (fun i hi _ => by simpa using hi)) (fun b hb => .inl hb)
   ·have := ho.at (i := 1) rfl
    rw [Array.size_setIfInBounds]
    exact this
   ·exact ho.at (i := 2) rfl
   ·rw [Array.toList_setIfInBounds]
    exact qoW x _ _ (by simp; omega)
  ·have hnd' : n = d.size := by omega
   refine qoD (P := Tryz.prog) (e := 29) (by kernel_rfl) hi hz (d.toList.map (Value.int .u32)) [.int .u32 x] (by rw [hsz]; simp; omega) (fun j u hj => ?_) (by rw [hsz]; rfl) hnews (by omega) (by rw [hby]; omega) (by omega) fun q hq1 hq2 => ?_
   ·rw [Addr.add_mk, qaj (ho.at (i := 2) rfl), Nat.zero_add]
    rw [List.getElem?_map] at hj
    unfold u32s
    rw [Array.getElem?_map]
    simpa using hj
   rw [zc]
   have hcs : (d.toList.map (Value.int .u32)).toArray ++ [Value.int .u32 x].toArray ++ Array.replicate (q - (n + 1)) (.int .u32 0) = u32s ((d.toList ++ [x] ++ List.replicate (q - (n + 1)) (0 : Int)).toArray) := by
    rw [qkh]
    apply Array.ext'
    simp
   rw [hcs]
   have e : ((d.toList ++ [x] ++ List.replicate (q - (n + 1)) (0 : Int)).toArray).size = q := by simp; omega
   have ho := ho.drew.alloc (.cells (u32s ((d.toList ++ [x] ++ List.replicate (q - (n + 1)) (0 : Int)).toArray)) 29 (0, 0))
   refine qad ?_
   refine Own.st ho 2 rfl _ rfl rfl rfl fun w2 ho _ => ?_
   have hnp : w1.drew.heap.size ≠ pb := by
    have := ho.nodup
    simp at this
    exact fun e => this.1.2.1 e
   refine hk [w1.drew.heap.size] _ w2 (.inr ⟨w1.drew.heap.size, 29, rfl, ?_, ho.at (i := 0) rfl, hnp, by rw [e]; exact hq1⟩) ?_ (ho.fr.mono (fun i hi _ => by simpa using hi)) (fun b hb => ?_)
   ·have := ho.at (i := 2) rfl
    rw [e]
    exact this
   ·rw [hnd']
    simp [List.take_append, List.take_of_length_le]
   ·simp at hb
    subst hb
    right
    show w.heap.size <= w1.heap.size
    omega
theorem qtT {w : World} {pb rb : Nat} {mb : Value} {d : Array Int} {n : Nat} {T : TypeId} {K : Value -> World -> Prop} (hb : w.heap[pb]? = some (plB rb (n + 1) d.size mb)) (hrb : w.heap[rb]? = some (.cells (u32s d) T (0, 0))) (hne : rb ≠ pb) (hn : n + 1 <= d.size) (hn2 : n <= 1000000)
  (hk : ∀ w', w'.heap[pb]? = some (plB rb n d.size mb) -> w'.heap[rb]? = some (.cells (u32s d) T (0, 0)) -> Fr [pb] w w' -> K (.iface 29 (.int .u32 d[n]!)) w') :
  inv Tryz.prog (.iface 175 (.pointer (some ⟨pb, 0, none⟩))) "Pop" [] [.one .any] w K := by
 refine qpE (f := 197) (by kernel_rfl) (e := 169) (by kernel_rfl) (by kernel_rfl) ?_
 refine qlV (r := some ⟨pb, 0, none⟩) ?_
 unfold qfW
 have ho : Own [pb] w w [(pb, plB rb (n + 1) d.size mb)] := ⟨by simpa using hb, by simp, .refl _ _, by simp⟩
 have ha : Arr rb T w w d := .start hrb
 refine qad (Own.ld (c := .slice) ho.drew 0 rfl ⟨some ⟨rb, 0, none⟩, n + 1, d.size⟩ rfl ?_)
 refine qad (Own.ld (c := .slice) ho.drew 0 rfl ⟨some ⟨rb, 0, none⟩, n + 1, d.size⟩ rfl ?_)
 dsimp only
 refine ha.drew.rd n (by rw [wi _ (by omega)]; omega) (by omega) (by omega) ?_
 refine qad (Own.ld (c := .slice) ho.drew.drew 0 rfl ⟨some ⟨rb, 0, none⟩, n + 1, d.size⟩ rfl ?_)
 refine qad (Own.ld (c := .slice) ho.drew.drew 0 rfl ⟨some ⟨rb, 0, none⟩, n + 1, d.size⟩ rfl ?_)
 dsimp only
 rw [wi _ (by omega)]
 refine qn1 ⟨by omega, by dsimp only; omega⟩ ?_
 refine qad ?_
 refine Own.st ho.drew.drew 0 rfl _ rfl rfl rfl fun w2 ho2 _ => ?_
 refine hk w2 ?_ ?_ ho2.fr
 ·have := ho2.at (i := 0) rfl
  rw [show (((n + 1 : Nat) : Int) - 1).toNat = n by omega] at this
  exact this
 ·rw [ho2.fr.block rb (qac hrb) (by simpa using hne)]
  exact hrb
theorem qdQ {d d' : Array Int} {n : Nat} (h : PermIn 0 n d d') : (d'.toList.take n).Perm (d.toList.take n) := by
 have := h.2.2
 simpa [Array.toList_extract] using this
theorem qrU {w : World} {pb : Nat} {mb : Value} {R : List Nat} {d : Array Int} {n : Nat} {x : Int} {K : Unit -> World -> Prop} (h : RowAt w pb mb R d n) (hn : n <= 1000000) (hh : IsHeap d n)
  (hk : ∀ R' d' w', RowAt w' pb mb R' d' (n + 1) -> IsHeap d' (n + 1) -> (d'.toList.take (n + 1)).Perm (d.toList.take n ++ [x]) -> Fr (pb :: R) w w' -> (∀ b ∈ R', b ∈ R \/ w.heap.size <= b) -> K () w') :
  call Tryz.prog 94 [.iface 175 (.pointer (some ⟨pb, 0, none⟩)), .iface 29 (.int .u32 x)] [] w K := by
 have hdn : n <= d.size := by
  rcases h with ⟨h0, _⟩ | ⟨_, _, _, _, _, _, h1⟩
  ·omega
  ·exact h1
 apply qoF
 unfold qiD
 refine qtQ h hn fun R1 d1 w1 hr ht hf hR => ?_
 rcases hr with ⟨h0, _⟩ | ⟨rb, T, hR1, hb, hrb, hne, hnd⟩
 ·omega
 subst hR1
 refine qte hb hne (.start hrb) ?_
 rw [wi _ (by omega), show ((n + 1 : Nat) : Int) - 1 = (n : Nat) by omega]
 have hsame : ∀ i, i < n -> d1[i]! = d[i]! := fun i hi => by
  have h1 := qe2 ht (show i < n + 1 by omega) hnd
  rw [List.getElem?_append_left (by simp; omega)] at h1
  have h2 := qe2 (d := d) rfl hi hdn
  rw [h2] at h1
  exact (Option.some.inj h1).symm
 refine qtP hb hne (.start hrb) (Nat.lt_succ_self n) ⟨hnd, by omega⟩ ⟨fun i h0 hi hin => ?_, fun i h0 hi hip _ => by omega⟩ fun d2 w2 hp hH ha => ?_
 ·rw [hsame i (by omega), hsame _ (by omega)]
  exact hh i h0 (by omega)
 ·refine hk [rb] d2 w2 (.inr ⟨rb, T, rfl, ?_, ha.blk, hne, by rw [hp.1]; exact hnd⟩) hH ((qdQ hp).trans (by rw [ht])) (hf.trans' ha.fr fun i hi => ?_) hR
  ·rw [ha.fr.block pb (qac hb) (by simpa using fun e => hne e.symm), hp.1]
   exact hb
  ·simp at hi
   subst hi
   rcases hR i (by simp) with h1 | h1
   ·exact .inl (List.mem_cons_of_mem _ h1)
   ·exact .inr h1
theorem IsHeap.min {d : Array Int} {n : Nat} (h : IsHeap d n) : ∀ i, i < n -> d[0]! <= d[i]! := by
 intro i
 induction i using Nat.strongRecOn with
 | _ i ih =>
  intro hi
  by_cases h0 : i = 0
  ·rw [h0]; exact Int.le_refl _
  ·exact Int.le_trans (ih ((i - 1) / 2) (by omega) (by omega)) (h i (by omega) hi)
theorem qs9 {w : World} {pb rb : Nat} {mb : Value} {d : Array Int} {n : Nat} {T : TypeId} {K : Value -> World -> Prop} (hb : w.heap[pb]? = some (plB rb (n + 1) d.size mb)) (hrb : w.heap[rb]? = some (.cells (u32s d) T (0, 0))) (hne : rb ≠ pb) (hnd : n + 1 <= d.size) (hn : n <= 1000000) (hh : IsHeap d (n + 1))
  (hk : ∀ d' w', RowAt w' pb mb [rb] d' n -> IsHeap d' n -> (d[0]! :: d'.toList.take n).Perm (d.toList.take (n + 1)) -> Fr [pb, rb] w w' -> K (.iface 29 (.int .u32 d[0]!)) w') :
  call Tryz.prog 92 [.iface 175 (.pointer (some ⟨pb, 0, none⟩))] [.one .any] w K := by
 apply qpq
 unfold qjW
 refine qte hb hne (.start hrb) ?_
 rw [wi _ (by omega), show ((n + 1 : Nat) : Int) - 1 = (n : Nat) by omega]
 refine qp6 (i := 0) (k := n) hb hne (.start hrb) (by omega) (by omega) ⟨hnd, by omega⟩ fun w1 h1 => ?_
 have hs1 : (swp d 0 n).size = d.size := Sort.size_swp _ _ _
 have hat := qeA d (i := 0) (j := n) (by omega) (by omega)
 refine qsV (n := n) hb hne h1 (by omega) ⟨by omega, by omega⟩ ⟨fun i h0 hi hin => ?_, fun i h0 hi hip hc => by omega⟩ fun b d2 w2 hp hH h2 => ?_
 ·rw [hat, hat, if_neg (by omega), if_neg (by omega), if_neg (by omega), if_neg (by omega)]
  exact hh i h0 (by omega)
 have hs2 := hp.1
 have hb2 : w2.heap[pb]? = some (plB rb (n + 1) d2.size mb) := by
  rw [h2.fr.block pb (qac hb) (by simpa using fun e => hne e.symm), hs2, hs1]
  exact hb
 refine qtT hb2 h2.blk hne (by omega) hn fun w3 g1 g2 g3 => ?_
 have hlast : d2[n]! = d[0]! := by
  rw [hp.2.1 n (.inr (Nat.le_refl _)), hat, if_pos rfl]
 rw [hlast]
 refine hk d2 w3 (.inr ⟨rb, T, rfl, g1, g2, hne, by omega⟩) hH ?_ ((h2.fr.mono (T := [pb, rb]) (fun i hi _ => by simp at hi; simp [hi])).trans (g3.mono (fun i hi _ => by simp at hi; simp [hi])))
 have p1 := qdQ hp
 have p2 := qdQ (swp_permIn d 0 (n + 1) 0 n (by omega) (by omega) (by omega) (by omega) (by omega))
 have e1 : (swp d 0 n).toList.take (n + 1) = (swp d 0 n).toList.take n ++ [d[0]!] := by
  have hv : (swp d 0 n)[n]! = d[0]! := by rw [hat, if_pos rfl]
  have hl : n < (swp d 0 n).toList.length := by simp [hs1]; omega
  rw [List.take_succ_eq_append_getElem hl]
  congr 2
  rw [<- hv]
  simp [show n < (swp d 0 n).size by omega]
 rw [e1] at p2
 exact ((List.perm_append_singleton _ _).symm.trans (p1.append_right _)).trans p2
def ins (x : Int) : List Int -> List Int
 | [] => [x]
 | a :: l => if x < a then x :: a :: l else if x = a then a :: l else a :: ins x l
theorem qgL {x : Int} : ∀ {l : List Int}, x ∉ l -> (ins x l).Perm (x :: l)
 | [], _ => .refl _
 | a :: l, h => by
  simp only [List.mem_cons, not_or] at h
  simp only [ins]
  split
  ·exact .refl _
  ·rw [if_neg h.1]
   exact ((qgL h.2).cons a).trans (.swap x a l)
theorem qpP {x y : Int} : ∀ {l : List Int}, y ∈ ins x l -> y = x \/ y ∈ l
 | [], h => by simp [ins] at h; exact .inl h
 | a :: l, h => by
  simp only [ins] at h
  split at h
  ·simp only [List.mem_cons] at h ⊢; exact h
  ·split at h
   ·exact .inr h
   ·simp only [List.mem_cons] at h ⊢
    rcases h with h | h
    ·exact .inr (.inl h)
    ·rcases qpP h with h | h
     ·exact .inl h
     ·exact .inr (.inr h)
theorem qep {x : Int} : ∀ {l : List Int}, l.Pairwise (· < ·) -> (ins x l).Pairwise (· < ·)
 | [], _ => by simp [ins]
 | a :: l, h => by
  have h' := List.pairwise_cons.1 h
  simp only [ins]
  split
  ·rename_i hx
   refine List.pairwise_cons.2 ⟨fun b hb => ?_, h⟩
   rcases List.mem_cons.1 hb with rfl | hb
   ·exact hx
   ·exact Int.lt_trans hx (h'.1 b hb)
  ·split
   ·exact h
   ·rename_i h1 h2
    refine List.pairwise_cons.2 ⟨fun b hb => ?_, qep h'.2⟩
    rcases qpP hb with rfl | hb
    ·omega
    ·exact h'.1 b hb
theorem qnR {x : Int} : ∀ {l : List Int}, l.Pairwise (· < ·) -> x ∈ l -> ins x l = l
 | a :: l, h, hx => by
  have h' := List.pairwise_cons.1 h
  simp only [ins]
  rcases List.mem_cons.1 hx with rfl | hx
  ·rw [if_neg (Int.lt_irrefl _), if_pos rfl]
  ·have := h'.1 x hx
   rw [if_neg (by omega), if_neg (by omega), qnR h'.2 hx]
theorem qgM {w : World} {b : Nat} (hb : b < w.heap.size) (o : Obj) : Fr [b] w (upd w b o) :=
 ⟨rfl, rfl, rfl, by rw [qcm]; exact Nat.le_refl _, fun j hj hS => by rw [qaD _ _ _ _ hb, if_neg (by simpa using hS)]⟩
theorem RowAt.frame {w w' : World} {pb : Nat} {m : Value} {R S : List Nat} {d : Array Int} {n : Nat} (h : RowAt w pb m R d n) (k : Fr S w w') (h1 : pb ∉ S) (h2 : ∀ r ∈ R, r ∉ S) : RowAt w' pb m R d n := by
 rcases h with ⟨a, b, c, e⟩ | ⟨rb, T, a, b, c, e, f⟩
 ·exact .inl ⟨a, b, c, by rw [k.block pb (qac e) h1]; exact e⟩
 ·exact .inr ⟨rb, T, a, by rw [k.block pb (qac b) h1]; exact b, by rw [k.block rb (qac c) (h2 rb (by rw [a]; simp))]; exact c, e, f⟩
theorem qjY {α : Type} [DecidableEq α] {kv : α -> Value} {w w' : World} {b : Nat} {S : List Nat} {f : List (α × Value)} (h : MapAt kv w b f) (k : Fr S w w') (h1 : b ∉ S) : MapAt kv w' b f := by
 obtain ⟨es, c, hb, he⟩ := h
 exact ⟨es, c, by rw [k.block b (qac hb) h1]; exact hb, he⟩
theorem RowAt.map_ne {w : World} {pb mb : Nat} {m : Value} {R : List Nat} {d : Array Int} {n : Nat} {f : List (Int × Value)} (h : RowAt w pb m R d n) (hm : MapAt u32V w mb f) : pb ≠ mb /\ ∀ r ∈ R, r ≠ mb := by
 obtain ⟨es, c, hb, _⟩ := hm
 rcases h with ⟨_, _, c', e⟩ | ⟨rb, T, a, b, c', e, _⟩
 ·refine ⟨fun e' => ?_, by simp [c']⟩
  subst e'
  rw [e] at hb; cases hb
 ·refine ⟨fun e' => ?_, fun r hr e' => ?_⟩
  ·subst e'
   rw [b] at hb; cases hb
  ·rw [a] at hr
   simp at hr
   subst hr e'
   rw [c'] at hb; cases hb
theorem PoolAt.frame {w w' : World} {pb : Nat} {F S : List Nat} {l : List Int} (h : PoolAt w pb F l) (k : Fr S w w') (hd : ∀ b ∈ F, b ∉ S) : PoolAt w' pb F l := by
 obtain ⟨⟨mb, R, d, f, rfl, hr, hm, h1, h2, h3, h4⟩, hs⟩ := h
 exact ⟨⟨mb, R, d, f, rfl, hr.frame k (hd _ (by simp)) (fun r hr => hd r (by simp [hr])), qjY hm k (hd _ (by simp)), h1, h2, h3, h4⟩, hs⟩
theorem PoolAt.lt {w : World} {pb : Nat} {F : List Nat} {l : List Int} (h : PoolAt w pb F l) : ∀ b ∈ F, b < w.heap.size := by
 obtain ⟨⟨mb, R, d, f, rfl, hr, ⟨es, c, hb, _⟩, _⟩, _⟩ := h
 intro b hbm
 simp only [List.mem_cons] at hbm
 rcases hr with ⟨_, _, c', e⟩ | ⟨rb, T, a, b', c', e, _⟩
 ·rcases hbm with rfl | rfl | hbm
  ·exact qac e
  ·exact qac hb
  ·rw [c'] at hbm; cases hbm
 ·rcases hbm with rfl | rfl | hbm
  ·exact qac b'
  ·exact qac hb
  ·rw [a] at hbm
   simp at hbm
   subst hbm
   exact qac c'
theorem qoU {w : World} {pb : Nat} {F : List Nat} {l : List Int} {n : Int} {K : Bool -> World -> Prop} (h : PoolAt w pb F l) (hl : l.length <= 1000000)
  (hk : ∀ F' w', PoolAt w' pb F' (ins n l) -> Fr F w w' -> (∀ b ∈ F', b ∈ F \/ w.heap.size <= b) -> K (decide (n ∉ l)) w') :
  call Tryz.prog 44 [.pointer (some ⟨pb, 0, none⟩), .int .u32 n] [.one .bool] w K := by
 refine qlv (p := some ⟨pb, 0, none⟩) ?_
 unfold qfb
 refine qox h ?_
 by_cases hx : n ∈ l
 ·refine cond_true (by simpa using hx) ?_
  have := hk F w (by rw [qnR h.sorted hx]; exact h) (.refl _ _) (fun b hb => .inl hb)
  simpa [hx] using this
 refine cond_false (by simpa using hx) ?_
 obtain ⟨s, mb', hcell, _, _⟩ := h.cells
 have hsort := h.sorted
 obtain ⟨mb, R, d, f, rfl, hr, hm, hp, hh, hf, h1⟩ := h.ex
 have hmb : mb' = mb := by
  rcases hr with ⟨_, _, _, e⟩ | ⟨rb, T, _, b, _⟩
  ·have h3 := congrArg (fun o => match o with | some (Obj.cells cs _ _) => cs[1]? | _ => none) (hcell.symm.trans e)
   simpa using h3
  ·have h3 := congrArg (fun o => match o with | some (Obj.cells cs _ _) => cs[1]? | _ => none) (hcell.symm.trans b)
   simpa [plB] using h3
 subst hmb
 refine qad ?_
 refine qag (c := .map) hcell (some mb') rfl ?_
 have hpos : posOf n f = none := by
  rcases qhk (x := n) h1 with ⟨hp, _⟩ | ⟨j, _, hx', _⟩
  ·exact hp
  ·exact absurd (hf.mem_iff.1 hx') hx
 obtain ⟨o, hrun, hm1⟩ := qqm (P := Tryz.prog) (t := 170) (et := 3) (v := .int .i64 1) (by kernel_rfl) qds hm n hpos
 refine qkp _ hrun ?_
 obtain ⟨hne1, hne2⟩ := hr.map_ne hm
 have hmlt : mb' < w.heap.size := by obtain ⟨es, c, hb, _⟩ := hm; exact qac hb
 have hfr := qgM hmlt o
 have hr1 := hr.frame hfr (by simpa using hne1) (fun r hr => by simpa using hne2 r hr)
 refine qad ?_
 refine qrU hr1 hl hh fun R' d' w2 hr2 hh2 hp2 hf2 hR2 => ?_
 have hperm := qgL hx
 have hlen : (ins n l).length = l.length + 1 := by have := hperm.length_eq; simpa using this
 have hm2 : MapAt u32V w2 mb' (f ++ [(n, .int .i64 1)]) := qjY hm1 hf2 (by simp only [List.mem_cons, not_or]; exact ⟨fun e => hne1 e.symm, fun e => hne2 _ e rfl⟩)
 have := hk (pb :: mb' :: R') w2 ⟨⟨mb', R', d', f ++ [(n, .int .i64 1)], rfl, by rw [hlen]; exact hr2, hm2, ?_, by rw [hlen]; exact hh2, ?_, ?_⟩, qep hsort⟩
  ((hfr.mono (T := pb :: mb' :: R) (fun i hi _ => by simp at hi; simp [hi])).trans (hf2.mono (fun i hi _ => by simp at hi; rcases hi with rfl | hi <;> simp [*]))) (fun b hb => ?_)
 ·simpa [hx] using this
 ·rw [hlen]
  exact hp2.trans (((hp.append_right [n]).trans (List.perm_append_singleton _ _)).trans hperm.symm)
 ·rw [List.map_append]
  exact ((hf.append_right _).trans (List.perm_append_singleton _ _)).trans hperm.symm
 ·intro p hp
  rcases List.mem_append.1 hp with hp | hp
  ·exact h1 p hp
  ·simp at hp; rw [hp]
 ·simp only [List.mem_cons] at hb
  rcases hb with rfl | rfl | hb
  ·exact .inl (by simp)
  ·exact .inl (by simp)
  ·rcases hR2 b hb with h' | h'
   ·exact .inl (by simp [h'])
   ·rw [qcm] at h'; exact .inr h'
theorem qhe {α : Type} : ∀ (l : List α) (i : Nat) (h : i < l.length), (l[i] :: l.eraseIdx i).Perm l
 | a :: l, 0, _ => .refl _
 | a :: l, i + 1, h => by
  simp only [List.getElem_cons_succ, List.eraseIdx_cons_succ]
  exact (List.Perm.swap _ _ _).trans ((qhe l i (by simpa using h)).cons a)
def takeV : List Int -> (Int × Bool) × List Int
 | [] => ((0, false), [])
 | x :: r => ((x, true), r)
theorem qs3 {w : World} {pb : Nat} {F : List Nat} {l : List Int} {K : Int × Bool -> World -> Prop} (h : PoolAt w pb F l) (hl : l.length <= 1000000)
  (hk : ∀ F' w', PoolAt w' pb F' (takeV l).2 -> Fr F w w' -> (∀ b ∈ F', b ∈ F \/ w.heap.size <= b) -> K (takeV l).1 w') :
  call Tryz.prog 41 [.pointer (some ⟨pb, 0, none⟩)] [.one (.int .u32), .one .bool] w K := by
 refine qkE (p := some ⟨pb, 0, none⟩) ?_
 unfold qef
 have hsort := h.sorted
 have hwhole := h
 obtain ⟨mb, R, d, f, rfl, hr, hm, hp, hh, hf, h1⟩ := h.ex
 rcases hr with ⟨h0, hd, hR, hb⟩ | ⟨rb, T, hR, hb, hrb, hne, hnd⟩
 ·have hl0 : l = [] := List.eq_nil_of_length_eq_zero h0
  subst hl0
  refine qad ?_
  refine qag (c := .slice) hb ⟨none, 0, 0⟩ rfl ?_
  refine cond_true rfl ?_
  exact hk _ w hwhole (.refl _ _) (fun b hb => .inl hb)
 subst hR
 refine qad ?_
 refine qag (c := .slice) hb ⟨some ⟨rb, 0, none⟩, l.length, d.size⟩ rfl ?_
 match l, hl, hk, hsort, hwhole, hb, hp, hh, hf, hnd with
 | [], hl, hk, hsort, hwhole, hb, hp, hh, hf, hnd =>
  refine cond_true rfl ?_
  exact hk _ w hwhole (.refl _ _) (fun b hb => .inl hb)
 | x :: r, hl, hk, hsort, hwhole, hb, hp, hh, hf, hnd =>
  simp only [List.length_cons] at hb hp hh hnd hl ⊢
  refine cond_false (by simp; omega) ?_
  refine qad ?_
  have hne' := (show RowAt w pb (.map (some mb)) [rb] d (r.length + 1) from .inr ⟨rb, T, rfl, hb, hrb, hne, hnd⟩).map_ne hm
  have hd0 : d[0]! = x := by
   have hmem : d[0]! ∈ x :: r := hp.mem_iff.1 (by
    have := qe2 (d := d) rfl (show 0 < r.length + 1 by omega) hnd
    exact List.mem_of_getElem? this)
   have hx : x ∈ d.toList.take (r.length + 1) := hp.mem_iff.2 (by simp)
   obtain ⟨i, hi, hix⟩ := List.getElem_of_mem hx
   have hi' : i < r.length + 1 := by simp at hi; omega
   have h2 := qe2 (d := d) rfl hi' hnd
   rw [List.getElem?_eq_getElem hi, hix] at h2
   have hmin := hh.min i hi'
   rw [<- Option.some.inj h2] at hmin
   rcases List.mem_cons.1 hmem with e | e
   ·exact e
   ·have := (List.pairwise_cons.1 hsort).1 _ e
    omega
  refine qs9 hb hrb hne hnd (by omega) hh fun d2 w2 hr2 hh2 hp2 hf2 => ?_
  rw [hd0] at hp2 ⊢
  have ta : (Instr.typeAssert (.iface 29 (.int .u32 x)) 20 29 true).run Tryz.prog w2 = .ok (.tuple #[.int .u32 x, .bool true]) w2 := by kernel_rfl
  refine qay (ts := [.one (.int .u32), .one .bool]) (x, true) ta ?_
  have hm2 : MapAt u32V w2 mb f := qjY hm hf2 (by simp only [List.mem_cons, List.not_mem_nil, or_false, not_or]; exact ⟨fun e => hne'.1 e.symm, fun e => hne'.2 rb (by simp) e.symm⟩)
  obtain ⟨s2, hc2⟩ : ∃ s : Sl, w2.heap[pb]? = some (.cells #[.slice s.a s.len s.cap, .map (some mb)] PT (0, 0)) := by
   rcases hr2 with ⟨_, _, _, hb'⟩ | ⟨rb', T', _, hb', _⟩
   ·exact ⟨⟨none, 0, 0⟩, hb'⟩
   ·exact ⟨⟨some ⟨rb', 0, none⟩, _, _⟩, hb'⟩
  refine qad ?_
  refine qag (c := .map) hc2 (some mb) rfl ?_
  obtain ⟨o, hrun, hm3⟩ := qqa (P := Tryz.prog) (t := 170) (et := 3) (kt := 29) (ty := 0) (by kernel_rfl) qds hm2 x
  refine qoE (ts := []) () _ hrun ?_
  rcases qhk (x := x) h1 with ⟨_, hx'⟩ | ⟨j, hpos, _, hj⟩
  ·exact absurd (hf.mem_iff.2 (by simp)) hx'
  rw [hpos] at hm3
  have hmlt : mb < w2.heap.size := by obtain ⟨es, c, hb, _⟩ := hm2; exact qac hb
  have hfr := qgM hmlt o
  refine hk [pb, mb, rb] (upd w2 mb o) ⟨⟨mb, [rb], d2, f.eraseIdx j, rfl, hr2.frame hfr (by simpa using hne'.1) (fun r hr => by simpa using hne'.2 r hr), hm3, (hp2.trans hp).cons_inv, hh2, ?_, fun p hp => h1 p (List.mem_of_mem_eraseIdx hp)⟩, (List.pairwise_cons.1 hsort).2⟩
   ((hf2.mono (T := [pb, mb, rb]) (fun i hi _ => by simp at hi; rcases hi with rfl | rfl <;> simp)).trans (hfr.mono (fun i hi _ => by simp at hi; simp [hi]))) (fun b hb => .inl hb)
  show ((f.eraseIdx j).map (·.1)).Perm r
  rw [qbO]
  obtain ⟨hjl, hje⟩ := List.getElem?_eq_some_iff.1 hj
  have := qhe _ _ hjl
  rw [hje] at this
  exact (this.trans hf).cons_inv
section
section
variable {blk : Nat} {T : ArrT} {w0 w : World} {d : Array Int} {len cap : Nat}
theorem qpx {lo hi first : Nat} {K : Unit -> World -> Prop} (h : Arr blk T w0 w d) (hlo : lo <= hi) (hf : first + hi <= len) (hl : len <= d.size /\ len <= 1152921504606846976)
  (hk : ∀ w', Arr blk T w0 w' (siftDown ltInt hi first lo d) -> (siftDown ltInt hi first lo d).size = d.size -> K () w') :
  call Tryz.prog 168 [.slice (some ⟨blk, 0, none⟩) len cap, .int .i64 lo, .int .i64 hi, .int .i64 first] [] w K := by
 refine qgl (data := ⟨some ⟨blk, 0, none⟩, len, cap⟩) ?_
 unfold qbI
 refine qaf (fun x w' => ∃ (r : Nat) (d' : Array Int), x = r /\ r <= hi /\ Arr blk T w0 w' d' /\ d'.size = d.size /\ siftDown ltInt hi first r d' = siftDown ltInt hi first lo d) (fun x _ => ((hi : Int) - x).toNat)
  ⟨lo, d, rfl, hlo, h, rfl, rfl⟩ ?_
 rintro x w1 ⟨r, d1, rfl, hr, h, hs1, he1⟩ X hX
 have e1 : IntKind.i64.wrap (IntKind.i64.wrap (2 * (r : Int)) + 1) = ((2 * r + 1 : Nat) : Int) := by rw [wi (2 * (r : Int)) (by omega), wi _ (by omega)]; omega
 have e2 : IntKind.i64.wrap (((2 * r + 1 : Nat) : Int) + 1) = ((2 * r + 2 : Nat) : Int) := by rw [wi _ (by omega)]; omega
 rw [e1, e2]
 have hd := siftDown.eq_1 ltInt hi first r d1
 refine qaa (fun hc => ?_) (fun hc => ?_)
 ·have hc' : 2 * r + 1 >= hi := by have := of_decide_eq_true hc; omega
  rw [dif_pos hc'] at hd
  rw [hd] at he1
  refine hk _ ?_ ?_
  ·rw [<- he1]; exact h
  ·rw [<- he1]; exact hs1
 ·have hc' : ¬ 2 * r + 1 >= hi := by have := of_decide_eq_false hc; omega
  rw [dif_neg hc'] at hd
  refine qae (fun x w' => x = ((if 2 * r + 1 + 1 < hi && ltInt d1[first + (2 * r + 1)]! d1[first + (2 * r + 1) + 1]! then 2 * r + 2 else 2 * r + 1 : Nat) : Int) /\ Arr blk T w0 w' d1) ?_ ?_
  ·refine qae (fun c w' => c = (decide (2 * r + 1 + 1 < hi) && ltInt d1[first + (2 * r + 1)]! d1[first + (2 * r + 1) + 1]!) /\ Arr blk T w0 w' d1) ?_ ?_
   ·refine qaa (fun hc => ?_) (fun hc => ?_)
    ·have hc2 : 2 * r + 1 + 1 < hi := by have := of_decide_eq_true hc; omega
     refine h.drew.rd (first + (2 * r + 1)) (by rw [wi _ (by omega)]; omega) (by omega) (by omega) ?_
     refine h.drew.rd (first + (2 * r + 1) + 1) (by rw [wi ((first : Int) + _) (by omega), wi _ (by omega)]; omega) (by omega) (by omega) ?_
     refine qbc ?_
     exact ⟨by simp [hc2], h.drew⟩
    ·have hc2 : ¬ 2 * r + 1 + 1 < hi := by have := of_decide_eq_false hc; omega
     exact ⟨by simp [hc2], h.drew⟩
   ·rintro c w3 ⟨rfl, h⟩
    refine qaa (fun hc => ?_) (fun hc => ?_)
    ·exact ⟨by rw [if_pos hc], h⟩
    ·exact ⟨by rw [if_neg (by simpa using hc)], h⟩
  ·rintro x w3 ⟨rfl, h⟩
   have fin : ∀ c : Nat, (c = 2 * r + 1 \/ c = 2 * r + 2) -> c < hi -> ((if !ltInt d1[first + r]! d1[first + c]! then d1 else siftDown ltInt hi first c (swp d1 (first + r) (first + c))) = siftDown ltInt hi first lo d) ->
     idx ⟨some ⟨blk, 0, none⟩, len, cap⟩ (IntKind.i64.wrap (first + r)) 1 fun a_16 => ld (.int .u32) a_16 w3.drew fun x_17 => idx ⟨some ⟨blk, 0, none⟩, len, cap⟩ (IntKind.i64.wrap (first + c)) 1 fun a_18 => ld (.int .u32) a_18 w3.drew fun x_19 =>
      call Tryz.prog 153 [.int .u32 x_17, .int .u32 x_19] [.one .bool] w3.drew fun b_20 w_21 =>
       bif !b_20 then K () w_21 else
        idx ⟨some ⟨blk, 0, none⟩, len, cap⟩ (IntKind.i64.wrap (first + c)) 1 fun a_22 => ld (.int .u32) a_22 w_21.drew fun x_23 => idx ⟨some ⟨blk, 0, none⟩, len, cap⟩ (IntKind.i64.wrap (first + r)) 1 fun a_24 => ld (.int .u32) a_24 w_21.drew fun x_25 =>
         idx ⟨some ⟨blk, 0, none⟩, len, cap⟩ (IntKind.i64.wrap (first + r)) 1 fun a_26 => st a_26 [.int .u32 x_23] w_21.drew fun w_27 => idx ⟨some ⟨blk, 0, none⟩, len, cap⟩ (IntKind.i64.wrap (first + c)) 1 fun a_28 => st a_28 [.int .u32 x_25] w_27 fun w_29 => X c w_29 := by
    intro c hcc hch hceq
    refine h.drew.rd (first + r) (by rw [wi _ (by omega)]; omega) (by omega) (by omega) ?_
    refine h.drew.rd (first + c) (by rw [wi _ (by omega)]; omega) (by omega) (by omega) ?_
    refine qbc ?_
    refine qaa (fun hc => ?_) (fun hc => ?_)
    ·rw [if_pos hc] at hceq
     refine hk _ ?_ ?_
     ·rw [<- hceq]; exact h.drew
     ·rw [<- hceq]; exact hs1
    ·rw [if_neg (by rw [hc]; decide)] at hceq
     refine h.drew.drew.swap (first + r) (first + c) (by rw [wi _ (by omega)]; omega) (by rw [wi _ (by omega)]; omega) (by omega) (by omega) (by omega) fun w4 h => ?_
     exact hX _ _ ⟨c, _, rfl, by omega, h, by rw [qgQ]; exact hs1, hceq⟩ (by omega)
   split
   ·rename_i hcc
    rw [if_pos hcc] at hd
    have hlt : 2 * r + 2 < hi := by simp only [Bool.and_eq_true, decide_eq_true_eq] at hcc; omega
    rw [dif_pos hlt] at hd
    exact fin _ (.inr rfl) hlt (hd.symm.trans he1)
   ·rename_i hcc
    rw [if_neg hcc] at hd
    exact fin _ (.inl rfl) (by omega) (hd.symm.trans he1)
theorem qsB {a b : Nat} {K : Unit -> World -> Prop} (h : Arr blk T w0 w d) (hab : a <= b) (hb : b <= len) (hl : len <= d.size /\ len <= 1152921504606846976)
  (hk : ∀ w', Arr blk T w0 w' (heapSort ltInt d a b) -> K () w') :
  call Tryz.prog 148 [.slice (some ⟨blk, 0, none⟩) len cap, .int .i64 a, .int .i64 b] [] w K := by
 refine qgj (data := ⟨some ⟨blk, 0, none⟩, len, cap⟩) ?_
 unfold qbG
 dsimp only
 have e0 : IntKind.i64.wrap ((b : Int) - a) = ((b - a : Nat) : Int) := by rw [wi _ (by omega)]; omega
 have e2 : IntKind.i64.wrap (Int.tdiv (IntKind.i64.wrap (((b - a : Nat) : Int) - 1)) 2) = (((b - a - 1) / 2 + 1 : Nat) : Int) - 1 := by
  rw [wi (_ - 1) (by omega)]
  by_cases hn : b - a = 0
  ·rw [hn]; decide +kernel
  ·rw [Int.tdiv_eq_ediv_of_nonneg (by omega), wi _ (by omega)]; omega
 rw [e0, e2]
 refine qaf (fun x w' => ∃ (k : Nat) (d' : Array Int), x = (k : Int) - 1 /\ k <= (b - a - 1) / 2 + 1 /\ Arr blk T w0 w' d' /\ d'.size = d.size /\ heapBuild ltInt (b - a) a k d' = heapBuild ltInt (b - a) a ((b - a - 1) / 2 + 1) d) (fun x _ => (x + 1).toNat)
  ⟨_, d, rfl, Nat.le_refl _, h, rfl, rfl⟩ ?_
 rintro x w1 ⟨k, d1, rfl, hkk, h, hs1, he1⟩ X hX
 refine qaa (fun hc => ?_) (fun hc => ?_)
 ·have hc' : 1 <= k := by have := of_decide_eq_true hc; omega
  obtain ⟨j, rfl⟩ : ∃ j, k = j + 1 := ⟨k - 1, by omega⟩
  rw [show ((j + 1 : Nat) : Int) - 1 = (j : Nat) by omega]
  refine qpx h (by omega) (by omega) (by omega) fun w2 h hs => ?_
  rw [wi _ (by omega)]
  exact hX _ _ ⟨j, _, rfl, by omega, h, by rw [hs, hs1], he1⟩ (by omega)
 ·have hc' : k = 0 := by have := of_decide_eq_false hc; omega
  subst hc'
  have he1' : d1 = heapBuild ltInt (b - a) a ((b - a - 1) / 2 + 1) d := he1
  rw [wi (_ - 1) (by omega)]
  refine qaf (fun x w' => ∃ (k : Nat) (d' : Array Int), x = (k : Int) - 1 /\ k <= b - a /\ Arr blk T w0 w' d' /\ d'.size = d.size /\ heapPop ltInt a k d' = heapPop ltInt a (b - a) d1) (fun x _ => (x + 1).toNat)
   ⟨_, d1, rfl, Nat.le_refl _, h, hs1, rfl⟩ ?_
  rintro x w2 ⟨k, d2, rfl, hkk, h, hs2, he2⟩ Z hZ
  refine qaa (fun hc => ?_) (fun hc => ?_)
  ·have hc' : 1 <= k := by have := of_decide_eq_true hc; omega
   obtain ⟨j, rfl⟩ : ∃ j, k = j + 1 := ⟨k - 1, by omega⟩
   rw [show ((j + 1 : Nat) : Int) - 1 = (j : Nat) by omega]
   refine h.drew.swap a (a + j) rfl (by rw [wi _ (by omega)]; omega) (by omega) (by omega) (by omega) fun w3 h => ?_
   refine qpx (lo := 0) h (by omega) (by omega) (by rw [qgQ]; omega) fun w4 h hs => ?_
   rw [wi _ (by omega)]
   exact hZ _ _ ⟨j, _, rfl, by omega, h, by rw [hs, qgQ, hs2], he2⟩ (by omega)
  ·have hc' : k = 0 := by have := of_decide_eq_false hc; omega
   subst hc'
   refine hk _ ?_
   unfold heapSort
   rw [<- he1', <- he2]
   exact h
theorem qtg {a b : Nat} {K : Unit -> World -> Prop} (h : Arr blk T w0 w d) (hab : a < b) (hb : b <= len) (hl : len <= d.size /\ len <= 1152921504606846976)
  (hk : ∀ w', Arr blk T w0 w' (reverseRange d a b) -> K () w') :
  call Tryz.prog 151 [.slice (some ⟨blk, 0, none⟩) len cap, .int .i64 a, .int .i64 b] [] w K := by
 refine qeH (data := ⟨some ⟨blk, 0, none⟩, len, cap⟩) ?_
 unfold qa7
 rw [wi _ (by omega)]
 refine qaf (fun x w' => ∃ (i j : Nat) (d' : Array Int), x = ((i : Int), (j : Int)) /\ i <= j + 1 /\ j < b /\ Arr blk T w0 w' d' /\ d'.size = d.size /\ reverseLoop i j d' = reverseLoop a (b - 1) d) (fun x _ => (x.2 - x.1).toNat)
  ⟨a, b - 1, d, qbK rfl (by omega), by omega, by omega, h, rfl, rfl⟩ ?_
 rintro x w1 ⟨i, j, d1, rfl, hij, hjb, h, hs1, he1⟩ X hX
 have hd := reverseLoop.eq_1 i j d1
 dsimp only
 refine qaa (fun hc => ?_) (fun hc => ?_)
 ·have hc' : i < j := by have := of_decide_eq_true hc; omega
  rw [if_pos hc'] at hd
  refine h.drew.swap i j rfl rfl (by omega) (by omega) (by omega) fun w2 h => ?_
  rw [wi (_ + 1) (by omega), wi (_ - 1) (by omega)]
  exact hX _ _ ⟨i + 1, j - 1, _, qbK (by omega) (by omega), by omega, by omega, h, by rw [qgQ, hs1], hd.symm.trans he1⟩ (by dsimp only; omega)
 ·have hc' : ¬ i < j := by have := of_decide_eq_false hc; omega
  rw [if_neg hc'] at hd
  refine hk _ ?_
  unfold reverseRange
  rw [<- he1, hd]
  exact h
end
end
section
section
variable {blk : Nat} {T : ArrT} {w0 w : World} {d : Array Int} {len cap : Nat}
theorem qhG {p : Int -> Bool} {J i0 : Nat} {E : Int -> World -> Prop} {t : Int -> World -> (Bool -> World -> Prop) -> Prop} (h : Arr blk T w0 w d) (hJ : J <= 1152921504606846976) (hi0 : i0 <= J + 2)
  (hT : ∀ (x : Nat) w Y, i0 <= x -> Arr blk T w0 w d -> (∀ w', Arr blk T w0 w' d -> Y (decide (x <= J) && p d[x]!) w') -> t x w Y)
  (hE : ∀ w', Arr blk T w0 w' d -> E (scanUp p d J i0 : Nat) w') :
  loop Int (fun X x w => join Bool (fun Y => t x w Y) fun b w' => bif b then X (IntKind.i64.wrap (x + 1)) w' else E x w') i0 w := by
 refine qaf (fun x w' => ∃ i : Nat, x = i /\ i0 <= i /\ i <= J + 2 /\ Arr blk T w0 w' d /\ scanUp p d J i = scanUp p d J i0) (fun x _ => ((J : Int) + 2 - x).toNat) ⟨i0, rfl, Nat.le_refl _, hi0, h, rfl⟩ ?_
 rintro x w1 ⟨i, rfl, hi, hiJ, h, he⟩ X hX
 refine qae (fun c w' => c = (decide (i <= J) && p d[i]!) /\ Arr blk T w0 w' d) (hT i w1 _ hi h fun w' h => ⟨rfl, h⟩) ?_
 rintro c w2 ⟨rfl, h⟩
 have hd := scanUp.eq_1 p d J i
 refine qaa (fun hc => ?_) (fun hc => ?_)
 ·have hc1 := hc
  simp only [Bool.and_eq_true, decide_eq_true_eq] at hc
  rw [if_pos (by simpa using hc1)] at hd
  rw [wi _ (by omega)]
  exact hX _ _ ⟨i + 1, by omega, by omega, by omega, h, hd.symm.trans he⟩ (by omega)
 ·rw [if_neg (by simpa using hc)] at hd
  rw [show (i : Int) = (scanUp p d J i0 : Nat) by rw [<- he, hd]]
  exact hE _ h
theorem qfZ {p : Int -> Bool} {i j0 : Nat} {E : Int -> World -> Prop} {t : Int -> World -> (Bool -> World -> Prop) -> Prop} (h : Arr blk T w0 w d) (hJ : j0 <= 1152921504606846976) (hi : 1 <= i)
  (hT : ∀ (x : Nat) w Y, x <= j0 -> Arr blk T w0 w d -> (∀ w', Arr blk T w0 w' d -> Y (decide (i <= x) && p d[x]!) w') -> t x w Y)
  (hE : ∀ w', Arr blk T w0 w' d -> E (scanDown p d i j0 : Nat) w') :
  loop Int (fun X x w => join Bool (fun Y => t x w Y) fun b w' => bif b then X (IntKind.i64.wrap (x - 1)) w' else E x w') j0 w := by
 refine qaf (fun x w' => ∃ j : Nat, x = j /\ j <= j0 /\ Arr blk T w0 w' d /\ scanDown p d i j = scanDown p d i j0) (fun x _ => x.toNat) ⟨j0, rfl, Nat.le_refl _, h, rfl⟩ ?_
 rintro x w1 ⟨j, rfl, hj, h, he⟩ X hX
 refine qae (fun c w' => c = (decide (i <= j) && p d[j]!) /\ Arr blk T w0 w' d) (hT j w1 _ hj h fun w' h => ⟨rfl, h⟩) ?_
 rintro c w2 ⟨rfl, h⟩
 refine qaa (fun hc => ?_) (fun hc => ?_)
 ·have hc1 := hc
  simp only [Bool.and_eq_true, decide_eq_true_eq] at hc
  obtain ⟨k, rfl⟩ : ∃ k, j = k + 1 := ⟨j - 1, by omega⟩
  rw [wi _ (by omega)]
  refine hX _ _ ⟨k, by omega, by omega, h, ?_⟩ (by omega)
  rw [<- he, scanDown, if_pos (by simpa using hc1)]
 ·rw [show (j : Int) = (scanDown p d i j0 : Nat) by
   rw [<- he]
   cases j with
   | zero => rfl
   | succ k => rw [scanDown, if_neg (by simpa using hc)]]
  exact hE _ h
theorem qsD {a b pivot : Nat} {K : Int × Bool -> World -> Prop} (h : Arr blk T w0 w d) (hap : a <= pivot) (hpb : pivot < b) (hb : b <= len) (hl : len <= d.size /\ len <= 1152921504606846976)
  (hk : ∀ w', Arr blk T w0 w' (Sort.partition ltInt d a b pivot).2.2 -> K (((Sort.partition ltInt d a b pivot).1 : Nat), (Sort.partition ltInt d a b pivot).2.1) w') :
  call Tryz.prog 155 [.slice (some ⟨blk, 0, none⟩) len cap, .int .i64 a, .int .i64 b, .int .i64 pivot] [.one (.int .i64), .one .bool] w K := by
 refine qfU (data := ⟨some ⟨blk, 0, none⟩, len, cap⟩) ?_
 unfold qbz
 revert hk
 unfold Sort.partition
 dsimp only
 intro hk
 refine h.drew.swap a pivot rfl rfl (by omega) (by omega) (by omega) fun w1 h => ?_
 have hsz : (swp d a pivot).size = d.size := Sort.size_swp _ _ _
 generalize swp d a pivot = d1 at h hk hsz
 have eb : IntKind.i64.wrap ((b : Int) - 1) = ((b - 1 : Nat) : Int) := by rw [wi _ (by omega)]; omega
 rw [eb, wi ((a : Int) + 1) (by omega), show (a : Int) + 1 = ((a + 1 : Nat) : Int) by omega]
 refine qhG (p := fun x => ltInt x d1[a]!) (J := b - 1) (i0 := a + 1) h (by omega) (by omega) (fun x w Y hx h hY => ?_) fun w2 h => ?_
 ·refine qaa (fun hc => ?_) (fun hc => ?_)
  ·have hc' : x <= b - 1 := by have := of_decide_eq_true hc; omega
   refine h.drew.rd x rfl (by omega) (by omega) ?_
   refine h.drew.rd a rfl (by omega) (by omega) ?_
   refine qbc ?_
   have := hY _ h.drew
   simpa [hc'] using this
  ·have hc' : ¬ x <= b - 1 := by have := of_decide_eq_false hc; omega
   have := hY _ h.drew
   simpa [hc'] using this
 have hu1 := scanUp_ge (fun x => ltInt x d1[a]!) d1 (b - 1) (a + 1)
 generalize scanUp (fun x => ltInt x d1[a]!) d1 (b - 1) (a + 1) = i at hk hu1 ⊢
 refine qfZ (p := fun x => !ltInt x d1[a]!) (i := i) (j0 := b - 1) h (by omega) (by omega) (fun x w Y hx h hY => ?_) fun w3 h => ?_
 ·refine qaa (fun hc => ?_) (fun hc => ?_)
  ·have hc' : i <= x := by have := of_decide_eq_true hc; omega
   refine h.drew.rd x rfl (by omega) (by omega) ?_
   refine h.drew.rd a rfl (by omega) (by omega) ?_
   refine qbc ?_
   have := hY _ h.drew
   simpa [hc'] using this
  ·have hc' : ¬ i <= x := by have := of_decide_eq_false hc; omega
   have := hY _ h.drew
   simpa [hc'] using this
 have hv1 := scanDown_le (fun x => !ltInt x d1[a]!) d1 i (b - 1)
 generalize scanDown (fun x => !ltInt x d1[a]!) d1 i (b - 1) = j at hk hv1 ⊢
 refine qaa (fun hc => ?_) (fun hc => ?_)
 ·have hc' : i > j := by have := of_decide_eq_true hc; omega
  simp only [if_pos hc'] at hk
  exact h.drew.swap j a rfl rfl (by omega) (by omega) (by omega) fun w4 h => hk _ h
 ·have hc' : ¬ i > j := by have := of_decide_eq_false hc; omega
  simp only [if_neg hc'] at hk
  refine h.drew.swap i j rfl rfl (by omega) (by omega) (by omega) fun w4 h => ?_
  have hsz2 : (swp d1 i j).size = d1.size := Sort.size_swp _ _ _
  generalize swp d1 i j = d2 at h hk hsz2
  rw [wi ((i : Int) + 1) (by omega), wi ((j : Int) - 1) (by omega)]
  refine qaf (fun s w' => ∃ (i' j' : Nat) (d' : Array Int), s = ((i' : Int), (j' : Int)) /\ a + 1 <= i' /\ i' <= b /\ j' <= b - 1 /\ i' <= j' + 2 /\ Arr blk T w0 w' d' /\ d'.size = d.size /\ partLoop ltInt a i' j' d' = partLoop ltInt a (i + 1) (j - 1) d2) (fun s _ => (s.2 + 2 - s.1).toNat)
   ⟨i + 1, j - 1, d2, qbK (by omega) (by omega), by omega, by omega, by omega, by omega, h, by omega, rfl⟩ ?_
  rintro s w5 ⟨i', j', d3, rfl, hi1, hi2, hj1, hij, h, hs3, he⟩ X hX
  rw [partLoop_eq ltInt a i' j' d3] at he
  dsimp only
  refine qhG (p := fun x => ltInt x d3[a]!) (J := j') (i0 := i') h (by omega) (by omega) (fun x w Y hx h hY => ?_) fun w6 h => ?_
  ·refine qaa (fun hc => ?_) (fun hc => ?_)
   ·have hc' : x <= j' := by have := of_decide_eq_true hc; omega
    refine h.drew.rd x rfl (by omega) (by omega) ?_
    refine h.drew.rd a rfl (by omega) (by omega) ?_
    refine qbc ?_
    have := hY _ h.drew
    simpa [hc'] using this
   ·have hc' : ¬ x <= j' := by have := of_decide_eq_false hc; omega
    have := hY _ h.drew
    simpa [hc'] using this
  have hu1 := scanUp_ge (fun x => ltInt x d3[a]!) d3 j' i'
  generalize scanUp (fun x => ltInt x d3[a]!) d3 j' i' = i2 at he hu1 ⊢
  refine qfZ (p := fun x => !ltInt x d3[a]!) (i := i2) (j0 := j') h (by omega) (by omega) (fun x w Y hx h hY => ?_) fun w7 h => ?_
  ·refine qaa (fun hc => ?_) (fun hc => ?_)
   ·have hc' : i2 <= x := by have := of_decide_eq_true hc; omega
    refine h.drew.rd x rfl (by omega) (by omega) ?_
    refine h.drew.rd a rfl (by omega) (by omega) ?_
    refine qbc ?_
    have := hY _ h.drew
    simpa [hc'] using this
   ·have hc' : ¬ i2 <= x := by have := of_decide_eq_false hc; omega
    have := hY _ h.drew
    simpa [hc'] using this
  have hv1 := scanDown_le (fun x => !ltInt x d3[a]!) d3 i2 j'
  generalize scanDown (fun x => !ltInt x d3[a]!) d3 i2 j' = j2 at he hv1 ⊢
  refine qaa (fun hc => ?_) (fun hc => ?_)
  ·have hc' : i2 > j2 := by have := of_decide_eq_true hc; omega
   rw [if_pos hc'] at he
   rw [<- he] at hk
   exact h.drew.swap j2 a rfl rfl (by omega) (by omega) (by omega) fun w4 h => hk _ h
  ·have hc' : ¬ i2 > j2 := by have := of_decide_eq_false hc; omega
   rw [if_neg hc'] at he
   refine h.drew.swap i2 j2 rfl rfl (by omega) (by omega) (by omega) fun w4 h => ?_
   rw [wi ((i2 : Int) + 1) (by omega), wi ((j2 : Int) - 1) (by omega)]
   exact hX _ _ ⟨i2 + 1, j2 - 1, _, qbK (by omega) (by omega), by omega, by omega, by omega, by omega, h, by rw [Sort.size_swp]; exact hs3, he⟩ (by dsimp only; omega)
theorem qrx {a b pivot : Nat} {K : Int -> World -> Prop} (h : Arr blk T w0 w d) (hap : a <= pivot) (hpb : pivot < b) (hb : b <= len) (hl : len <= d.size /\ len <= 1152921504606846976)
  (hk : ∀ w', Arr blk T w0 w' (Sort.partitionEqual ltInt d a b pivot).2 -> K ((Sort.partitionEqual ltInt d a b pivot).1 : Nat) w') :
  call Tryz.prog 154 [.slice (some ⟨blk, 0, none⟩) len cap, .int .i64 a, .int .i64 b, .int .i64 pivot] [.one (.int .i64)] w K := by
 refine qed (data := ⟨some ⟨blk, 0, none⟩, len, cap⟩) ?_
 unfold qaZ
 revert hk
 unfold Sort.partitionEqual
 intro hk
 refine h.drew.swap a pivot rfl rfl (by omega) (by omega) (by omega) fun w1 h => ?_
 have hsz : (swp d a pivot).size = d.size := Sort.size_swp _ _ _
 generalize swp d a pivot = d2 at h hk hsz
 rw [wi ((a : Int) + 1) (by omega), wi ((b : Int) - 1) (by omega)]
 refine qaf (fun s w' => ∃ (i' j' : Nat) (d' : Array Int), s = ((i' : Int), (j' : Int)) /\ a + 1 <= i' /\ i' <= b /\ j' <= b - 1 /\ i' <= j' + 2 /\ Arr blk T w0 w' d' /\ d'.size = d.size /\ partEqLoop ltInt a i' j' d' = partEqLoop ltInt a (a + 1) (b - 1) d2) (fun s _ => (s.2 + 2 - s.1).toNat)
  ⟨a + 1, b - 1, d2, qbK (by omega) (by omega), by omega, by omega, by omega, by omega, h, by omega, rfl⟩ ?_
 rintro s w5 ⟨i', j', d3, rfl, hi1, hi2, hj1, hij, h, hs3, he⟩ X hX
 rw [partEqLoop_eq ltInt a i' j' d3] at he
 dsimp only
 refine qhG (p := fun x => !ltInt d3[a]! x) (J := j') (i0 := i') h (by omega) (by omega) (fun x w Y hx h hY => ?_) fun w6 h => ?_
 ·refine qaa (fun hc => ?_) (fun hc => ?_)
  ·have hc' : x <= j' := by have := of_decide_eq_true hc; omega
   refine h.drew.rd a rfl (by omega) (by omega) ?_
   refine h.drew.rd x rfl (by omega) (by omega) ?_
   refine qbc ?_
   have := hY _ h.drew
   simpa [hc'] using this
  ·have hc' : ¬ x <= j' := by have := of_decide_eq_false hc; omega
   have := hY _ h.drew
   simpa [hc'] using this
 have hu1 := scanUp_ge (fun x => !ltInt d3[a]! x) d3 j' i'
 generalize scanUp (fun x => !ltInt d3[a]! x) d3 j' i' = i2 at he hu1 ⊢
 refine qfZ (p := fun x => ltInt d3[a]! x) (i := i2) (j0 := j') h (by omega) (by omega) (fun x w Y hx h hY => ?_) fun w7 h => ?_
 ·refine qaa (fun hc => ?_) (fun hc => ?_)
  ·have hc' : i2 <= x := by have := of_decide_eq_true hc; omega
   refine h.drew.rd a rfl (by omega) (by omega) ?_
   refine h.drew.rd x rfl (by omega) (by omega) ?_
   refine qbc ?_
   have := hY _ h.drew
   simpa [hc'] using this
  ·have hc' : ¬ i2 <= x := by have := of_decide_eq_false hc; omega
   have := hY _ h.drew
   simpa [hc'] using this
 have hv1 := scanDown_le (fun x => ltInt d3[a]! x) d3 i2 j'
 generalize scanDown (fun x => ltInt d3[a]! x) d3 i2 j' = j2 at he hv1 ⊢
 refine qaa (fun hc => ?_) (fun hc => ?_)
 ·have hc' : i2 > j2 := by have := of_decide_eq_true hc; omega
  rw [if_pos hc'] at he
  rw [<- he] at hk
  exact hk _ h
 ·have hc' : ¬ i2 > j2 := by have := of_decide_eq_false hc; omega
  rw [if_neg hc'] at he
  refine h.drew.swap i2 j2 rfl rfl (by omega) (by omega) (by omega) fun w4 h => ?_
  rw [wi ((i2 : Int) + 1) (by omega), wi ((j2 : Int) - 1) (by omega)]
  exact hX _ _ ⟨i2 + 1, j2 - 1, _, qbK (by omega) (by omega), by omega, by omega, by omega, by omega, h, by rw [Sort.size_swp]; exact hs3, he⟩ (by dsimp only; omega)
end
end
section
section
variable {blk : Nat} {T : ArrT} {w0 w : World} {d : Array Int} {len cap : Nat}
theorem qrV {a b : Nat} {K : Bool -> World -> Prop} (h : Arr blk T w0 w d) (hab : a < b) (hb : b <= len) (hl : len <= d.size /\ len <= 1152921504606846976)
  (hk : ∀ w', Arr blk T w0 w' (Sort.partialInsertionSort ltInt d a b).1 -> K (Sort.partialInsertionSort ltInt d a b).2 w') :
  call Tryz.prog 152 [.slice (some ⟨blk, 0, none⟩) len cap, .int .i64 a, .int .i64 b] [.one .bool] w K := by
 refine qcY (data := ⟨some ⟨blk, 0, none⟩, len, cap⟩) ?_
 unfold qaN
 revert hk
 unfold Sort.partialInsertionSort
 intro hk
 rw [wi ((a : Int) + 1) (by omega)]
 refine qaf (fun x w' => ∃ (i s : Nat) (d' : Array Int), x = ((i : Int), 5 - (s : Int)) /\ s <= 5 /\ a + 1 <= i /\ i <= b /\ Arr blk T w0 w' d' /\ d'.size = d.size /\ partialIns ltInt a b s i d' = partialIns ltInt a b 5 (a + 1) d) (fun x _ => (5 - x.2).toNat)
  ⟨a + 1, 5, d, qbK (by omega) (by omega), by omega, by omega, by omega, h, rfl, rfl⟩ ?_
 rintro x w1 ⟨i, s, d1, rfl, hs5, hi1, hi2, h, hs1, he⟩ X hX
 dsimp only
 refine qaa (fun hc => ?_) (fun hc => ?_)
 ·obtain ⟨s, rfl⟩ : ∃ k, s = k + 1 := ⟨s - 1, by have := of_decide_eq_true hc; omega⟩
  rw [partialIns_succ] at he
  refine qae (fun x w' => ∃ (i : Nat) (d' : Array Int), x = i /\ a + 1 <= i /\ i <= b /\ Arr blk T w0 w' d' /\ d'.size = d.size /\ partialIns ltInt a b s i d' = partialIns ltInt a b 5 (a + 1) d) ?_ ?_
  ·refine qaf (fun x w' => ∃ k : Nat, x = k /\ a + 1 <= k /\ k <= b /\ Arr blk T w0 w' d1 /\ scanSorted ltInt d1 b k = scanSorted ltInt d1 b i) (fun x _ => ((b : Int) - x).toNat) ⟨i, rfl, hi1, hi2, h, rfl⟩ ?_
   rintro x w2 ⟨k, rfl, hk1, hk2, h, hsc⟩ Z hZ
   have hd := scanSorted.eq_1 ltInt d1 b k
   refine qae (fun c w' => c = (decide (k < b) && !ltInt d1[k]! d1[k - 1]!) /\ Arr blk T w0 w' d1) ?_ ?_
   ·refine qaa (fun hc => ?_) (fun hc => ?_)
    ·have hc' : k < b := by have := of_decide_eq_true hc; omega
     refine h.drew.rd k rfl (by omega) (by omega) ?_
     refine h.drew.rd (k - 1) (by rw [wi _ (by omega)]; omega) (by omega) (by omega) ?_
     refine qbc ?_
     exact ⟨by simp [hc'], h.drew⟩
    ·have hc' : ¬ k < b := by have := of_decide_eq_false hc; omega
     exact ⟨by simp [hc'], h.drew⟩
   ·rintro c w3 ⟨rfl, h⟩
    refine qaa (fun hc => ?_) (fun hc => ?_)
    ·have hc1 := hc
     simp only [Bool.and_eq_true, decide_eq_true_eq] at hc
     rw [if_pos (by simpa using hc1)] at hd
     rw [wi _ (by omega)]
     exact hZ _ _ ⟨k + 1, by omega, by omega, by omega, h, hd.symm.trans hsc⟩ (by omega)
    ·rw [if_neg (by simpa using hc)] at hd
     rw [show scanSorted ltInt d1 b i = k by rw [<- hsc, hd]] at he
     unfold fixUp fixDown at he
     refine qaa (fun hc => ?_) (fun hc => ?_)
     ·have hkb : k = b := by have := beq_iff_eq.1 hc; omega
      rw [if_pos hkb] at he
      rw [<- he] at hk
      exact hk _ h
     ·have hkb : ¬ k = b := fun e => by rw [e] at hc; simp at hc
      rw [if_neg hkb] at he
      rw [wi ((b : Int) - a) (by omega)]
      refine qaa (fun hc => ?_) (fun hc => ?_)
      ·have h50 : b - a < 50 := by have := of_decide_eq_true hc; omega
       rw [if_pos h50] at he
       rw [<- he] at hk
       exact hk _ h
      ·have h50 : ¬ b - a < 50 := by have := of_decide_eq_false hc; omega
       rw [if_neg h50] at he
       refine h.drew.swap k (k - 1) rfl (by rw [wi _ (by omega)]; omega) (by omega) (by omega) (by omega) fun w4 h => ?_
       have hsz2 : (swp d1 k (k - 1)).size = d1.size := Sort.size_swp _ _ _
       generalize swp d1 k (k - 1) = d2 at h he hsz2
       refine qae (fun _ w' => Arr blk T w0 w' (if k - a >= 2 then shiftDown ltInt (k - 1) d2 else d2) /\ (if k - a >= 2 then shiftDown ltInt (k - 1) d2 else d2).size = d2.size) ?_ ?_
       ·rw [wi ((k : Int) - a) (by omega)]
        refine qaa (fun hc => ?_) (fun hc => ?_)
        ·have hka : k - a >= 2 := by have := of_decide_eq_true hc; omega
         simp only [if_pos hka]
         rw [wi ((k : Int) - 1) (by omega)]
         refine qaf (fun x w' => ∃ (j : Nat) (d' : Array Int), x = j /\ j <= k - 1 /\ Arr blk T w0 w' d' /\ d'.size = d2.size /\ shiftDown ltInt j d' = shiftDown ltInt (k - 1) d2) (fun x _ => x.toNat) ⟨k - 1, d2, by omega, by omega, h, rfl, rfl⟩ ?_
         rintro x w5 ⟨j, d3, rfl, hj, h, hs3, he3⟩ Q hQ
         refine qaa (fun hc => ?_) (fun hc => ?_)
         ·obtain ⟨j, rfl⟩ : ∃ m, j = m + 1 := ⟨j - 1, by have := of_decide_eq_true hc; omega⟩
          rw [shiftDown] at he3
          refine h.drew.rd (j + 1) rfl (by omega) (by omega) ?_
          refine h.drew.rd j (by rw [wi _ (by omega)]; omega) (by omega) (by omega) ?_
          refine qbc ?_
          refine qaa (fun hc => ?_) (fun hc => ?_)
          ·rw [if_pos hc] at he3
           rw [<- he3]
           exact ⟨h.drew, hs3⟩
          ·rw [if_neg (by rw [hc]; decide)] at he3
           refine h.drew.drew.swap (j + 1) j rfl (by rw [wi _ (by omega)]; omega) (by omega) (by omega) (by omega) fun w6 h => ?_
           rw [wi _ (by omega)]
           exact hQ _ _ ⟨j, _, by omega, by omega, h, by rw [Sort.size_swp]; exact hs3, he3⟩ (by omega)
         ·have hj0 : j = 0 := by have := of_decide_eq_false hc; omega
          subst hj0
          rw [<- he3]
          exact ⟨h, hs3⟩
        ·have hka : ¬ k - a >= 2 := by have := of_decide_eq_false hc; omega
         simp only [if_neg hka]
         exact ⟨h, trivial⟩
       ·rintro _ w5 ⟨h, hs3⟩
        generalize (if k - a >= 2 then shiftDown ltInt (k - 1) d2 else d2) = d3 at h he hs3
        rw [wi ((b : Int) - k) (by omega)]
        refine qaa (fun hc => ?_) (fun hc => ?_)
        ·have hbk : b - k >= 2 := by have := of_decide_eq_true hc; omega
         rw [if_pos hbk] at he
         rw [wi ((k : Int) + 1) (by omega)]
         refine qaf (fun x w' => ∃ (j : Nat) (d' : Array Int), x = j /\ k + 1 <= j /\ j <= b /\ Arr blk T w0 w' d' /\ d'.size = d.size /\ shiftUp ltInt b j d' = shiftUp ltInt b (k + 1) d3) (fun x _ => ((b : Int) - x).toNat) ⟨k + 1, d3, by omega, by omega, by omega, h, by omega, rfl⟩ ?_
         rintro x w6 ⟨j, d4, rfl, hj1, hj2, h, hs4, he4⟩ Q hQ
         have hd4 := shiftUp.eq_1 ltInt b j d4
         refine qaa (fun hc => ?_) (fun hc => ?_)
         ·have hjb : j < b := by have := of_decide_eq_true hc; omega
          rw [if_pos hjb] at hd4
          refine h.drew.rd j rfl (by omega) (by omega) ?_
          refine h.drew.rd (j - 1) (by rw [wi _ (by omega)]; omega) (by omega) (by omega) ?_
          refine qbc ?_
          refine qaa (fun hc => ?_) (fun hc => ?_)
          ·rw [if_pos hc] at hd4
           rw [<- he4, hd4] at he
           exact ⟨k, d4, rfl, hk1, hk2, h.drew, hs4, he⟩
          ·rw [if_neg (by rw [hc]; decide)] at hd4
           refine h.drew.drew.swap j (j - 1) rfl (by rw [wi _ (by omega)]; omega) (by omega) (by omega) (by omega) fun w6 h => ?_
           rw [wi _ (by omega)]
           exact hQ _ _ ⟨j + 1, _, by omega, by omega, by omega, h, by rw [Sort.size_swp]; exact hs4, hd4.symm.trans he4⟩ (by omega)
         ·have hjb : ¬ j < b := by have := of_decide_eq_false hc; omega
          rw [if_neg hjb] at hd4
          rw [<- he4, hd4] at he
          exact ⟨k, d4, rfl, hk1, hk2, h, hs4, he⟩
        ·have hbk : ¬ b - k >= 2 := by have := of_decide_eq_false hc; omega
         rw [if_neg hbk] at he
         exact ⟨k, d3, rfl, hk1, hk2, h, by omega, he⟩
  ·rintro x w2 ⟨k, d2, rfl, hk1, hk2, h, hs2, he2⟩
   rw [wi _ (by omega)]
   exact hX _ _ ⟨k, s, d2, qbK rfl (by omega), by omega, hk1, hk2, h, hs2, he2⟩ (by dsimp only; omega)
 ·have hs0 : s = 0 := by have := of_decide_eq_false hc; omega
  subst hs0
  rw [<- he] at hk
  exact hk _ h
end
end
theorem qsE {s : ByteArray} {i : Int} {K : Int -> Prop} (b : UInt8) (h0 : 0 <= i) (h : s[i.toNat]? = some b) (k : K (b.toNat : Int)) : idxS s i K := by
 unfold idxS
 exact ⟨b, ⟨h0, h⟩, k⟩
theorem qfN {n k : Nat} (h : 2 ^ k <= n) : bitsLen n = bitsLen (n / 2 ^ k) + k := by
 have h1 : bitsLen n <= bitsLen (n / 2 ^ k) + k := by
  rw [bitsLen_le_iff, Nat.pow_add]
  have := lt_two_pow_bitsLen (n / 2 ^ k)
  exact (Nat.div_lt_iff_lt_mul (Nat.two_pow_pos k)).1 this
 have h2 : bitsLen (n / 2 ^ k) + k <= bitsLen n := by
  have hn := lt_two_pow_bitsLen n
  have hk : k <= bitsLen n := by
   rcases Nat.lt_or_ge (bitsLen n) k with hl | hl
   ·have := Nat.pow_le_pow_right (show 0 < 2 by decide) (Nat.le_of_lt hl); omega
   ·exact hl
  have : bitsLen (n / 2 ^ k) <= bitsLen n - k := by
   rw [bitsLen_le_iff, Nat.div_lt_iff_lt_mul (Nat.two_pow_pos k), <- Nat.pow_add, Nat.sub_add_cancel hk]
   exact hn
  omega
 omega
theorem qql {n k : Nat} (h : n < 2 ^ k) : bitsLen n <= k := (bitsLen_le_iff n k).2 h
theorem qlb (n k : Nat) : Int.fdiv (n : Int) ((k : Nat) : Int) = ((n / k : Nat) : Int) := by
 rw [Int.fdiv_eq_ediv_of_nonneg _ (by omega)]
 rfl
theorem qss {n : Nat} {w : World} {K : Int -> World -> Prop} (hn : n < 18446744073709551616) (hk : K (bitsLen n : Nat) w) : call Tryz.prog 157 [.int .u64 n] [.one (.int .i64)] w K := by
 apply qnD
 unfold qhv
 refine qae (fun t w' => ∃ m c : Nat, t = ((m : Int), (c : Int)) /\ w = w' /\ m < 4294967296 /\ c <= 32 /\ bitsLen n = bitsLen m + c) ?_ ?_
 ·refine qaa (fun hc => ?_) (fun hc => ?_)
  ·have h := of_decide_eq_true hc
   refine ⟨n / 2 ^ 32, 32, qbK (qlb n (2 ^ 32)) rfl, rfl, by omega, by omega, qfN (by omega)⟩
  ·have h := of_decide_eq_false hc
   exact ⟨n, 0, rfl, rfl, by omega, by omega, rfl⟩
 rintro t w' ⟨m, c, rfl, rfl, hm, hc1, he⟩
 dsimp only
 refine qae (fun t w' => ∃ m c : Nat, t = ((m : Int), (c : Int)) /\ w = w' /\ m < 65536 /\ c <= 48 /\ bitsLen n = bitsLen m + c) ?_ ?_
 ·refine qaa (fun hc => ?_) (fun hc => ?_)
  ·have h := of_decide_eq_true hc
   refine ⟨m / 2 ^ 16, c + 16, qbK (qlb m (2 ^ 16)) (by rw [wi _ (by omega)]; omega), rfl, by omega, by omega, by rw [he, qfN (n := m) (k := 16) (by omega)]; omega⟩
  ·have h := of_decide_eq_false hc
   exact ⟨m, c, rfl, rfl, by omega, by omega, he⟩
 rintro t w' ⟨m, c, rfl, rfl, hm, hc1, he⟩
 dsimp only
 refine qae (fun t w' => ∃ m c : Nat, t = ((m : Int), (c : Int)) /\ w = w' /\ m < 256 /\ c <= 56 /\ bitsLen n = bitsLen m + c) ?_ ?_
 ·refine qaa (fun hc => ?_) (fun hc => ?_)
  ·have h := of_decide_eq_true hc
   refine ⟨m / 2 ^ 8, c + 8, qbK (qlb m (2 ^ 8)) (by rw [wi _ (by omega)]; omega), rfl, by omega, by omega, by rw [he, qfN (n := m) (k := 8) (by omega)]; omega⟩
  ·have h := of_decide_eq_false hc
   exact ⟨m, c, rfl, rfl, by omega, by omega, he⟩
 rintro t w' ⟨m, c, rfl, rfl, hm, hc1, he⟩
 dsimp only
 have hb := qql (n := m) (k := 8) (by omega)
 rw [IntWalk.u8_in (m : Int) (by omega)]
 refine qsE (UInt8.ofNat (bitsLen m)) (by omega) ?_ ?_
 ·rw [Int.toNat_natCast]
  clear he hb
  revert m
  decide +kernel
 ·have e : (UInt8.ofNat (bitsLen m)).toNat = bitsLen m := by simp; omega
  rw [e, wi (bitsLen m : Nat) (by omega), wi _ (by omega)]
  rw [he] at hk
  rw [show (c : Int) + (bitsLen m : Nat) = ((bitsLen m + c : Nat) : Int) by omega]
  exact hk
theorem qnT {n : Nat} {w : World} {K : Int -> World -> Prop} (hn : n < 18446744073709551616) (hk : K (bitsLen n : Nat) w) : call Tryz.prog 125 [.int .u64 n] [.one (.int .i64)] w K := by
 apply qpm
 unfold qjy
 exact qss hn hk
section
structure Arr2 (blk : Nat) (T : ArrT) (w0 w : World) (d : Array Int) (sb : Nat) (k : IntKind) (v : Int) : Prop where
 arr : Arr blk T w0 w d
 cell : ∃ T2, w.heap[sb]? = some (.cells #[.int k v] T2 (0, 0))
 ne : sb ≠ blk
 new : w0.heap.size <= sb
section
variable {blk : Nat} {T : ArrT} {w0 w : World} {d : Array Int} {len cap sb : Nat} {k : IntKind} {v : Int}
theorem Arr2.drew (h : Arr2 blk T w0 w d sb k v) : Arr2 blk T w0 w.drew d sb k v := ⟨h.arr.drew, h.cell, h.ne, h.new⟩
theorem Arr2.get (h : Arr2 blk T w0 w d sb k v) {K : Int -> Prop} (hk : K v) : ld (.int k) ⟨sb, 0, none⟩ w K := by
 obtain ⟨T2, hc⟩ := h.cell
 exact qag hc v rfl hk
theorem Arr2.put (h : Arr2 blk T w0 w d sb k v) (u : Int) {K : World -> Prop} (hk : ∀ w', Arr2 blk T w0 w' d sb k u -> K w') : st ⟨sb, 0, none⟩ [.int k u] w K := by
 obtain ⟨T2, hc⟩ := h.cell
 unfold st
 refine qic (w := w) [.int k u] 0 0 _ w K hc rfl (by simp) (hk _ ⟨⟨?_, ?_⟩, ⟨T2, ?_⟩, h.ne, h.new⟩)
 ·refine h.arr.fr.trans' (T := [sb]) ⟨rfl, rfl, rfl, by rw [qcm]; exact Nat.le_refl _, fun j hj hS => ?_⟩ (fun i hi => .inr ?_)
  ·rw [qaD _ _ _ _ (qac hc), if_neg (by simpa using hS)]
  ·have := h.new
   simp at hi; omega
 ·rw [qaD _ _ _ _ (qac hc), if_neg (fun e => h.ne e.symm)]
  exact h.arr.blk
 ·rw [qaD _ _ _ _ (qac hc), if_pos rfl]
  rfl
theorem Arr2.mk' (h : Arr blk T w0 w d) (T2 : TypeId) (u : Int) {K : Nat -> World -> Prop} (hk : ∀ b w', Arr2 blk T w0 w' d b k u -> K b w') : Pt.new (.cells #[.int k u] T2 (0, 0)) w K := by
 unfold Pt.new
 refine hk _ _ ⟨⟨h.fr.alloc _, ?_⟩, ⟨T2, ?_⟩, ?_, h.fr.size⟩
 ·have := qac h.blk
  rw [qcj, if_neg (by omega)]
  exact h.blk
 ·rw [qcj, if_pos rfl]
 ·have := qac h.blk
  omega
theorem qj7 {a b : Nat} {K : Int × Int -> World -> Prop} (h : Arr2 blk T w0 w d sb .i64 v) (ha : a < len) (hb : b < len) (hl : len <= d.size /\ len <= 1152921504606846976)
  (hk : ∀ (p q : Nat) u w', (p = a /\ q = b \/ p = b /\ q = a) -> Arr2 blk T w0 w' d sb .i64 u -> K ((p : Int), (q : Int)) w') :
  call Tryz.prog 177 [.slice (some ⟨blk, 0, none⟩) len cap, .int .i64 a, .int .i64 b, .pointer (some ⟨sb, 0, none⟩)] [.one (.int .i64), .one (.int .i64)] w K := by
 refine qg0 (data := ⟨some ⟨blk, 0, none⟩, len, cap⟩) ?_
 unfold qb1
 refine h.arr.drew.rd b rfl hb hl ?_
 refine h.arr.drew.rd a rfl ha hl ?_
 refine qbc ?_
 refine qaa (fun hc => ?_) (fun hc => ?_)
 ·refine qad ?_
  refine h.drew.get ?_
  refine qad ?_
  exact h.drew.put _ fun w' h => hk b a _ _ (.inr ⟨rfl, rfl⟩) h
 ·exact hk a b _ _ (.inl ⟨rfl, rfl⟩) h.drew
theorem qnb {a b c : Nat} {K : Int -> World -> Prop} (h : Arr2 blk T w0 w d sb .i64 v) (ha : a < len) (hb : b < len) (hc : c < len) (hl : len <= d.size /\ len <= 1152921504606846976)
  (hk : ∀ (p : Nat) u w', (p = a \/ p = b \/ p = c) -> Arr2 blk T w0 w' d sb .i64 u -> K (p : Int) w') :
  call Tryz.prog 172 [.slice (some ⟨blk, 0, none⟩) len cap, .int .i64 a, .int .i64 b, .int .i64 c, .pointer (some ⟨sb, 0, none⟩)] [.one (.int .i64)] w K := by
 refine qg5 (data := ⟨some ⟨blk, 0, none⟩, len, cap⟩) ?_
 unfold qb7
 dsimp only
 refine qj7 h ha hb hl fun p q u w1 hp h => ?_
 dsimp only
 refine qj7 h (by omega) hc hl fun p' q' u w1 hp' h => ?_
 dsimp only
 refine qj7 h (by omega) (by omega) hl fun p'' q'' u w1 hp'' h => ?_
 exact hk _ _ _ (by omega) h
theorem qj9 {a : Nat} {K : Int -> World -> Prop} (h : Arr2 blk T w0 w d sb .i64 v) (ha : 1 <= a) (hb : a + 1 < len) (hl : len <= d.size /\ len <= 1152921504606846976)
  (hk : ∀ (p : Nat) u w', (a <= p + 1 /\ p <= a + 1) -> Arr2 blk T w0 w' d sb .i64 u -> K (p : Int) w') :
  call Tryz.prog 171 [.slice (some ⟨blk, 0, none⟩) len cap, .int .i64 a, .pointer (some ⟨sb, 0, none⟩)] [.one (.int .i64)] w K := by
 refine qee (data := ⟨some ⟨blk, 0, none⟩, len, cap⟩) ?_
 unfold qa0
 dsimp only
 rw [wi ((a : Int) - 1) (by omega), wi ((a : Int) + 1) (by omega), show (a : Int) - 1 = ((a - 1 : Nat) : Int) by omega, show (a : Int) + 1 = ((a + 1 : Nat) : Int) by omega]
 exact qnb h (by omega) (by omega) (by omega) hl fun p u w' hp h => hk p u w' (by omega) h
theorem qrZ {a b : Nat} {K : Int × Int -> World -> Prop} (h : Arr blk T w0 w d) (hab : a < b) (hb : b <= len) (hl : len <= d.size /\ len <= 1152921504606846976)
  (hk : ∀ (p : Nat) (x : Int) w', a <= p /\ p < b -> Arr blk T w0 w' d -> K ((p : Int), x) w') :
  call Tryz.prog 150 [.slice (some ⟨blk, 0, none⟩) len cap, .int .i64 a, .int .i64 b] [.one (.int .i64), .one (.int .i64)] w K := by
 refine qe6 (data := ⟨some ⟨blk, 0, none⟩, len, cap⟩) ?_
 unfold qbi
 dsimp only
 have e0 : IntKind.i64.wrap ((b : Int) - a) = ((b - a : Nat) : Int) := by rw [wi _ (by omega)]; omega
 have e4 : Int.tdiv ((b - a : Nat) : Int) 4 = (((b - a) / 4 : Nat) : Int) := by rw [Int.tdiv_eq_ediv_of_nonneg (by omega)]; omega
 have e1 : ∀ m : Nat, m <= 3 -> IntKind.i64.wrap ((a : Int) + IntKind.i64.wrap (IntKind.i64.wrap (((b - a) / 4 : Nat) : Int) * (m : Int))) = ((a + (b - a) / 4 * m : Nat) : Int) := by
  intro m hm
  have hq : (b - a) / 4 * m <= (b - a) / 4 * 3 := Nat.mul_le_mul_left _ hm
  have hz : (((b - a) / 4 : Nat) : Int) * (m : Int) = (((b - a) / 4 * m : Nat) : Int) := by push_cast; rfl
  rw [wi (((b - a) / 4 : Nat) : Int) (by omega), hz, wi (((b - a) / 4 * m : Nat) : Int) (by omega), wi _ (by omega)]
  omega
 have f1 := e1 1 (by omega)
 have f2 := e1 2 (by omega)
 have f3 := e1 3 (by omega)
 simp only [Int.cast_ofNat_Int] at f1 f2 f3
 rw [e0, e4, f1, f2, f3]
 refine Arr2.mk' h _ _ fun sb w1 h => ?_
 refine qae (fun x w' => ∃ (p : Nat) (u : Int), x = p /\ a <= p /\ p < b /\ Arr2 blk T w0 w' d sb .i64 u) ?_ ?_
 ·refine qaa (fun hc => ?_) (fun hc => ?_)
  ·have h8 : b - a >= 8 := by have := of_decide_eq_true hc; omega
   refine qae (fun x w' => ∃ (p q r : Nat) (u : Int), x = ((p : Int), (q : Int), (r : Int)) /\ a <= p /\ p < b /\ a <= q /\ q < b /\ a <= r /\ r < b /\ Arr2 blk T w0 w' d sb .i64 u) ?_ ?_
   ·refine qaa (fun hc => ?_) (fun hc => ?_)
    ·have h50 : b - a >= 50 := by have := of_decide_eq_true hc; omega
     refine qj9 h (by omega) (by omega) hl fun p u w2 hp h => ?_
     refine qj9 h (by omega) (by omega) hl fun q u w2 hq h => ?_
     refine qj9 h (by omega) (by omega) hl fun r u w2 hr h => ?_
     exact ⟨p, q, r, u, rfl, by omega, by omega, by omega, by omega, by omega, by omega, h⟩
    ·exact ⟨_, _, _, _, rfl, by omega, by omega, by omega, by omega, by omega, by omega, h⟩
   ·rintro x w2 ⟨p, q, r, u, rfl, hp1, hp2, hq1, hq2, hr1, hr2, h⟩
    dsimp only
    refine qnb h (by omega) (by omega) (by omega) hl fun m u w3 hm h => ?_
    exact ⟨m, u, rfl, by omega, by omega, h⟩
  ·exact ⟨_, _, rfl, by omega, by omega, h⟩
 ·rintro x w2 ⟨p, u, rfl, hp1, hp2, h⟩
  refine h.get ?_
  refine qaa (fun hc => ?_) (fun hc => ?_)
  ·exact hk _ _ _ ⟨hp1, hp2⟩ h.arr
  ·refine qaa (fun hc => ?_) (fun hc => ?_)
   ·exact hk _ _ _ ⟨hp1, hp2⟩ h.arr
   ·exact hk _ _ _ ⟨hp1, hp2⟩ h.arr
end
end
section
section
variable {blk : Nat} {T : ArrT} {w0 w : World} {d : Array Int} {len cap sb : Nat} {k : IntKind} {v : Int}
theorem Arr.self (h : Arr blk T w0 w d) : Arr blk T w w d := ⟨.refl _ _, h.blk⟩
theorem Arr2.step (h : Arr2 blk T w0 w d sb k v) {w' : World} {d' : Array Int} (g : Arr blk T w w' d') : Arr2 blk T w0 w' d' sb k v := by
 obtain ⟨T2, hc⟩ := h.cell
 refine ⟨⟨h.arr.fr.trans g.fr, g.blk⟩, ⟨T2, ?_⟩, h.ne, h.new⟩
 rw [g.fr.block sb (qac hc) (by simpa using h.ne)]
 exact hc
theorem qs5 {K : Int -> World -> Prop} (h : Arr2 blk T w0 w d sb .u64 v) (hk : ∀ (x : Int) w', 0 <= x /\ x <= 18446744073709551615 -> Arr2 blk T w0 w' d sb .u64 x -> K x w') :
  call Tryz.prog 170 [.pointer (some ⟨sb, 0, none⟩)] [.one (.int .u64)] w K := by
 refine qgY (r := some ⟨sb, 0, none⟩) ?_
 unfold qcc
 refine qad (h.drew.get (qad (h.drew.get (qad (h.drew.put _ fun w1 h => ?_)))))
 refine qad (h.drew.get (qad (h.drew.get (qad (h.drew.put _ fun w1 h => ?_)))))
 refine qad (h.drew.get (qad (h.drew.get (qad (h.drew.put _ fun w1 h => ?_)))))
 refine qad (h.get ?_)
 exact hk _ _ (bits_within .xor .u64 _ _) h
theorem qtn {n : Nat} {w : World} {K : Int -> World -> Prop} (hn : 1 <= n /\ n <= 1152921504606846976) (hk : K ((2 ^ bitsLen n : Nat) : Int) w) : call Tryz.prog 169 [.int .i64 n] [.one (.int .u64)] w K := by
 apply qgV
 unfold qbT
 rw [IntWalk.u64_in (n : Int) (by omega)]
 refine qnT (by omega) ?_
 refine qan (by omega) ?_
 have h1 := two_pow_bitsLen_le (n := n) (by omega)
 have h2 : bitsLen n <= 61 := (bitsLen_le_iff n 61).2 (by omega)
 rw [Int.toNat_natCast, Nat.min_eq_left (by omega)]
 have e : (1 : Int) * 2 ^ bitsLen n = ((2 ^ bitsLen n : Nat) : Int) := by rw [Int.one_mul]; push_cast; rfl
 have hnn : (0 : Int) <= ((2 ^ bitsLen n : Nat) : Int) := Int.natCast_nonneg _
 rw [e, IntWalk.u64_in _ (by omega)]
 exact hk
theorem qsf {a b : Nat} {K : Unit -> World -> Prop} (h : Arr blk T w0 w d) (hab : a <= b) (hb : b <= len) (hl : len <= d.size /\ len <= 1152921504606846976)
  (hk : ∀ d' w', PermIn a b d d' -> Arr blk T w0 w' d' -> K () w') :
  call Tryz.prog 149 [.slice (some ⟨blk, 0, none⟩) len cap, .int .i64 a, .int .i64 b] [] w K := by
 refine qeD (data := ⟨some ⟨blk, 0, none⟩, len, cap⟩) ?_
 unfold qa1
 have e0 : IntKind.i64.wrap ((b : Int) - a) = ((b - a : Nat) : Int) := by rw [wi _ (by omega)]; omega
 rw [e0]
 refine qaa (fun hc => ?_) (fun hc => ?_)
 ·have h8 : b - a >= 8 := by have := of_decide_eq_true hc; omega
  have e4 : Int.tdiv ((b - a : Nat) : Int) 4 = (((b - a) / 4 : Nat) : Int) := by rw [Int.tdiv_eq_ediv_of_nonneg (by omega)]; omega
  have e1 : IntKind.i64.wrap ((a : Int) + IntKind.i64.wrap (IntKind.i64.wrap (((b - a) / 4 : Nat) : Int) * 2)) = ((a + (b - a) / 4 * 2 : Nat) : Int) := by
   rw [wi (((b - a) / 4 : Nat) : Int) (by omega), wi ((((b - a) / 4 : Nat) : Int) * 2) (by omega), wi _ (by omega)]
   omega
  rw [e4, e1, IntWalk.u64_in ((b - a : Nat) : Int) (by omega)]
  refine Arr2.mk' h _ _ fun sb w1 h => ?_
  refine h.put _ fun w2 h => ?_
  refine qtn (by omega) ?_
  have hp1 := two_pow_bitsLen_le (n := b - a) (by omega)
  have hp2 := Nat.two_pow_pos (bitsLen (b - a))
  rw [wi (_ - 1) (by omega), wi (_ + 1) (by omega)]
  refine qaf (fun x w' => ∃ (i : Nat) (d' : Array Int) (u : Int), x = i /\ a <= i /\ i <= a + (b - a) / 4 * 2 + 2 /\ PermIn a b d d' /\ Arr2 blk T w0 w' d' sb .u64 u) (fun x _ => (((a + (b - a) / 4 * 2 + 2 : Nat) : Int) - x).toNat)
   ⟨a + (b - a) / 4 * 2 - 1, d, _, by omega, by omega, by omega, permIn_refl _ _ _, h⟩ ?_
  rintro x w3 ⟨i, d1, u, rfl, hi1, hi2, hp, h⟩ X hX
  have hs1 := hp.1
  refine qaa (fun hc => ?_) (fun hc => ?_)
  ·have hi3 : i <= a + (b - a) / 4 * 2 + 1 := by have := of_decide_eq_true hc; omega
   refine qs5 h fun y w4 hy h => ?_
   obtain ⟨z, rfl⟩ : ∃ z : Nat, y = z := ⟨y.toNat, by omega⟩
   have ez : bits .and .u64 (z : Int) (IntKind.u64.wrap (((2 ^ bitsLen (b - a) : Nat) : Int) - 1)) = ((z % 2 ^ bitsLen (b - a) : Nat) : Int) := by
    rw [IntWalk.u64_in _ (by omega), show ((2 ^ bitsLen (b - a) : Nat) : Int) - 1 = ((2 ^ bitsLen (b - a) - 1 : Nat) : Int) by omega, bits_and_u64_nat z _ (by omega) (by omega), Nat.and_two_pow_sub_one_eq_mod]
   rw [ez]
   have hz := Nat.mod_lt z hp2
   rw [wi ((z % 2 ^ bitsLen (b - a) : Nat) : Int) (by omega)]
   refine qae (fun x w' => ∃ o : Nat, x = o /\ o < b - a /\ Arr2 blk T w0 w' d1 sb .u64 z) ?_ ?_
   ·refine qaa (fun hc => ?_) (fun hc => ?_)
    ·have := of_decide_eq_true hc
     exact ⟨z % 2 ^ bitsLen (b - a) - (b - a), by rw [wi _ (by omega)]; omega, by omega, h⟩
    ·have := of_decide_eq_false hc
     exact ⟨z % 2 ^ bitsLen (b - a), rfl, by omega, h⟩
   ·rintro x w5 ⟨o, rfl, ho, h⟩
    refine h.drew.arr.self.swap i (a + o) rfl (by rw [wi _ (by omega)]; omega) (by omega) (by omega) (by omega) fun w6 h6 => ?_
    rw [wi _ (by omega)]
    exact hX _ _ ⟨i + 1, _, _, by omega, by omega, by omega, permIn_trans _ _ _ _ _ hp (swp_permIn _ _ _ _ _ (by omega) (by omega) (by omega) (by omega) (by omega)), h.drew.step h6⟩ (by omega)
  ·exact hk d1 _ hp h.arr
 ·exact hk d _ (permIn_refl _ _ _) h
end
end
section
section
variable {blk : Nat} {T : ArrT} {len cap : Nat}
theorem qtr : ∀ (n : Nat) {w0 w : World} {d : Array Int} {a b : Nat} {limit : Int} {K : Unit -> World -> Prop}, b - a <= n -> Arr blk T w0 w d -> a <= b -> b <= len -> (len <= d.size /\ len <= 1152921504606846976) -> Sort.Below ltInt a b d ->
  (∀ d' w', PermIn a b d d' -> SortedIn ltInt a b d' -> Arr blk T w0 w' d' -> K () w') ->
  call Tryz.prog 124 [.slice (some ⟨blk, 0, none⟩) len cap, .int .i64 a, .int .i64 b, .int .i64 limit] [] w K := by
 intro n
 induction n using Nat.strongRecOn with
 | _ n ih =>
 intro w0 w d a0 b0 limit0 K hn h hab hb hl hB hk
 refine qc2 (data := ⟨some ⟨blk, 0, none⟩, len, cap⟩) ?_
 unfold qa6
 dsimp only
 refine qaf (fun x w' => ∃ (a b : Nat) (l : Int) (wb wp : Bool) (d' : Array Int), x = ((a : Int), (b : Int), l, wb, wp) /\ b - a <= n /\ a <= b /\ b <= len /\ d'.size = d.size /\ Sort.Below ltInt a b d' /\ Arr blk T w0 w' d' /\
   ∀ R, PermIn a b d' R -> SortedIn ltInt a b R -> PermIn a0 b0 d R /\ SortedIn ltInt a0 b0 R) (fun x _ => (x.2.1 - x.1).toNat)
  ⟨a0, b0, limit0, true, true, d, rfl, hn, hab, hb, rfl, hB, h, fun R h1 h2 => ⟨h1, h2⟩⟩ ?_
 rintro x w1 ⟨a, b, l, wb, wp, d1, rfl, hn1, hab, hb, hs1, hB, h, hR⟩ X hX
 dsimp only
 have e0 : IntKind.i64.wrap ((b : Int) - a) = ((b - a : Nat) : Int) := by rw [wi _ (by omega)]; omega
 rw [e0]
 refine qaa (fun hc => ?_) (fun hc => ?_)
 ·refine qti h hab hb (by omega) fun w2 h => ?_
  obtain ⟨h1, h2⟩ := insertionSort_holds swo d1 a b hab (by omega)
  obtain ⟨h3, h4⟩ := hR _ h1 h2
  exact hk _ _ h3 h4 h
 have h12 : 12 < b - a := by have := of_decide_eq_false hc; omega
 refine qaa (fun hc => ?_) (fun hc => ?_)
 ·refine qsB h hab hb (by omega) fun w2 h => ?_
  obtain ⟨h1, h2⟩ := heapSort_holds swo d1 a b hab (by omega)
  obtain ⟨h3, h4⟩ := hR _ h1 h2
  exact hk _ _ h3 h4 h
 refine qae (fun _ w' => ∃ d2, PermIn a b d1 d2 /\ Arr blk T w0 w' d2) ?_ ?_
 ·refine qaa (fun hc => ?_) (fun hc => ?_)
  ·exact qsf h hab hb (by omega) fun d2 w2 hp h => ⟨d2, hp, h⟩
  ·exact ⟨d1, permIn_refl _ _ _, h⟩
 rintro lim w2 ⟨d2, hp2, h⟩
 have hs2 := hp2.1
 refine qrZ h (by omega) hb (by omega) fun p hint w3 hpp h => ?_
 dsimp only
 refine qae (fun x w' => ∃ (p : Nat) (hint : Int) (d3 : Array Int), x = ((p : Int), hint) /\ a <= p /\ p < b /\ PermIn a b d1 d3 /\ Arr blk T w0 w' d3) ?_ ?_
 ·refine qaa (fun hc => ?_) (fun hc => ?_)
  ·refine qtg h (by omega) hb (by omega) fun w4 h => ?_
   refine ⟨(b - 1) - (p - a), 1, _, qbK ?_ rfl, by omega, by omega, permIn_trans _ _ _ _ _ hp2 (reverseRange_holds _ _ _ hab (by omega)), h⟩
   rw [wi ((b : Int) - 1) (by omega), wi ((p : Int) - a) (by omega), wi _ (by omega)]
   omega
  ·exact ⟨p, hint, d2, rfl, hpp.1, hpp.2, hp2, h⟩
 rintro x w4 ⟨p, hint, d3, rfl, hp1, hp2, hp3, h⟩
 have hs3 := hp3.1
 dsimp only
 refine qae (fun _ w' => ∃ d4, PermIn a b d1 d4 /\ Arr blk T w0 w' d4) ?_ ?_
 ·refine qae (fun _ w' => Arr blk T w0 w' d3) ?_ ?_
  ·refine qaa (fun hc => ?_) (fun hc => ?_)
   ·refine qaa (fun hc => ?_) (fun hc => ?_)
    ·exact h
    ·exact h
   ·exact h
  ·rintro c w5 h
   refine qaa (fun hc => ?_) (fun hc => ?_)
   ·refine qrV h (by omega) hb (by omega) fun w6 h => ?_
    obtain ⟨h1, h2⟩ := partialInsertionSort_holds swo d3 a b (by omega) (by omega) (hB.perm (by omega) hp3)
    refine qaa (fun hc => ?_) (fun hc => ?_)
    ·obtain ⟨h3, h4⟩ := hR _ (permIn_trans _ _ _ _ _ hp3 h1) (h2 hc)
     exact hk _ _ h3 h4 h
    ·exact ⟨_, permIn_trans _ _ _ _ _ hp3 h1, h⟩
   ·exact ⟨d3, hp3, h⟩
 rintro _ w5 ⟨d4, hp4, h⟩
 have hs4 := hp4.1
 have hB4 := hB.perm (by omega) hp4
 refine qae (fun c w' => c = (decide (0 < a) && !ltInt d4[a - 1]! d4[p]!) /\ Arr blk T w0 w' d4) ?_ ?_
 ·refine qaa (fun hc => ?_) (fun hc => ?_)
  ·have ha : 0 < a := by have := of_decide_eq_true hc; omega
   refine h.drew.rd (a - 1) (by rw [wi _ (by omega)]; omega) (by omega) (by omega) ?_
   refine h.drew.rd p rfl (by omega) (by omega) ?_
   refine qbc ?_
   exact ⟨by simp [ha], h.drew⟩
  ·have ha : ¬ 0 < a := by have := of_decide_eq_false hc; omega
   exact ⟨by simp [ha], h.drew⟩
 rintro c w6 ⟨rfl, h⟩
 refine qaa (fun hc => ?_) (fun hc => ?_)
 ·simp only [Bool.and_eq_true, decide_eq_true_eq, Bool.not_eq_true'] at hc
  have hr := round_eq swo (partitionEqual_holds ltInt) hc.1 hp1 hp2 (by omega) hB4 hc.2 (mid := (Sort.partitionEqual ltInt d4 a b p).1) (d4 := (Sort.partitionEqual ltInt d4 a b p).2) rfl
  refine qrx h hp1 hp2 hb (by omega) fun w7 h => ?_
  obtain ⟨h1, h2, h3, h4, h5⟩ := hr
  refine hX _ _ ⟨_, b, lim, wb, wp, _, rfl, by omega, h2, hb, by omega, h4, h, fun R r1 r2 => ?_⟩ (by dsimp only; omega)
  obtain ⟨q1, q2⟩ := h5 R r1 r2
  exact hR R (permIn_trans _ _ _ _ _ hp4 q1) q2
 ·have hr := round_part swo (partition_holds ltInt) hp1 hp2 (by omega) hB4 (mid := (Sort.partition ltInt d4 a b p).1) (ap := (Sort.partition ltInt d4 a b p).2.1) (d4 := (Sort.partition ltInt d4 a b p).2.2) rfl
  refine qsD h hp1 hp2 hb (by omega) fun w7 h => ?_
  obtain ⟨h1, h2, h3, h4, h5, h6, h7⟩ := hr
  dsimp only
  generalize (Sort.partition ltInt d4 a b p).1 = mid at *
  generalize (Sort.partition ltInt d4 a b p).2.2 = d5 at *
  rw [wi ((mid : Int) - a) (by omega), wi ((b : Int) - mid) (by omega), wi ((mid : Int) + 1) (by omega), show (mid : Int) + 1 = ((mid + 1 : Nat) : Int) by omega]
  refine qaa (fun hc => ?_) (fun hc => ?_)
  ·have hlt : mid - a < b - mid := by have := of_decide_eq_true hc; omega
   refine ih (mid - a) (by omega) (Nat.le_refl _) h h1 (by omega) (by omega) h4 fun d6 w8 r1 r2 h => ?_
   obtain ⟨q1, q2⟩ := h6 d6 r1 r2
   refine hX _ _ ⟨mid + 1, b, lim, _, _, d6, rfl, by omega, by omega, hb, by have := r1.1; omega, q1, h, fun R s1 s2 => ?_⟩ (by dsimp only; omega)
   obtain ⟨t1, t2⟩ := q2 R s1 s2
   exact hR R (permIn_trans _ _ _ _ _ hp4 t1) t2
  ·refine ih (b - (mid + 1)) (by omega) (Nat.le_refl _) h (by omega) hb (by omega) h5 fun d6 w8 r1 r2 h => ?_
   obtain ⟨q1, q2⟩ := h7 d6 r1 r2
   refine hX _ _ ⟨a, mid, lim, _, _, d6, rfl, by omega, by omega, by omega, by have := r1.1; omega, q1, h, fun R s1 s2 => ?_⟩ (by dsimp only; omega)
   obtain ⟨t1, t2⟩ := q2 R s1 s2
   exact hR R (permIn_trans _ _ _ _ _ hp4 t1) t2
theorem qpR {w0 w : World} {d : Array Int} {K : Unit -> World -> Prop} (h : Arr blk T w0 w d) (hl : len <= d.size /\ len <= 1152921504606846976)
  (hk : ∀ d' w', PermIn 0 len d d' -> SortedIn ltInt 0 len d' -> Arr blk T w0 w' d' -> K () w') :
  call Tryz.prog 91 [.slice (some ⟨blk, 0, none⟩) len cap] [] w K := by
 refine qhN (x := ⟨some ⟨blk, 0, none⟩, len, cap⟩) ?_
 unfold qey
 dsimp only
 rw [IntWalk.u64_in (len : Int) (by omega)]
 refine qnT (by omega) ?_
 exact qtr len (a := 0) (by omega) h (by omega) (Nat.le_refl _) hl (.inl rfl) hk
theorem qob {w : World} {K : Unit -> World -> Prop} (hk : K () w) : call Tryz.prog 91 [.slice none 0 0] [] w K := by
 refine qhN (x := ⟨none, 0, 0⟩) ?_
 unfold qey
 dsimp only
 rw [IntWalk.u64_in ((0 : Nat) : Int) (by omega)]
 refine qnT (n := 0) (by omega) ?_
 refine qc2 (data := ⟨none, 0, 0⟩) ?_
 unfold qa6
 refine qhg fun X hX => ?_
 refine cond_true (by decide +kernel) ?_
 refine qbN (data := ⟨none, 0, 0⟩) ?_
 unfold qaM
 refine qhg fun X hX => ?_
 exact cond_false (by decide +kernel) hk
end
end
theorem qrX {w : World} {rb n cap : Nat} {d : Array Int} {T : TypeId} {K : Sl -> World -> Prop} (hrb : w.heap[rb]? = some (.cells (u32s d) T (0, 0))) (hnd : n <= d.size) (hn : n <= 1000000)
  (hk : ∀ b d' cap' T' w', w'.heap[b]? = some (.cells (u32s d') T' (0, 0)) -> n <= d'.size -> n <= cap' /\ cap' <= d'.size -> d'.toList.take n = d.toList.take n -> w.heap.size <= b -> Fr [] w w' -> K ⟨some ⟨b, 0, none⟩, n, cap'⟩ w') :
  call Tryz.prog 82 [.slice (some ⟨rb, 0, none⟩) n cap] [.one .slice] w K := by
 obtain ⟨i31, hi, hz, hsz, hby⟩ := qkj
 refine qeh (s := ⟨some ⟨rb, 0, none⟩, n, cap⟩) ?_
 unfold qct
 refine cond_false rfl ?_
 have ho := Own.start [] w
 refine Own.new ho fun tb w1 et st1 ho => ?_
 have hr1 : w1.heap[rb]? = some (.cells (u32s d) T (0, 0)) := by rw [ho.fr.block rb (qac hrb) (by simp)]; exact hrb
 have hnews : ∀ (j : Nat) u, ((d.toList.take n).map (Value.int .u32))[j]? = some u -> w1.cell? ((⟨rb, 0, none⟩ : Addr).add j) = some u := fun j u hj => by
  rw [Addr.add_mk, qaj hr1, Nat.zero_add]
  rw [List.getElem?_map, List.getElem?_take] at hj
  by_cases hjn : j < n
  ·rw [if_pos hjn] at hj
   unfold u32s
   rw [Array.getElem?_map]
   simpa using hj
  ·rw [if_neg hjn] at hj; cases hj
 have hlen : ((d.toList.take n).map (Value.int .u32)).length = n := by simp; omega
 dsimp only
 by_cases h0 : n = 0
 ·subst h0
  refine qpT (P := Tryz.prog) (e := 29) (by kernel_rfl) hi [] (ho.at (i := 0) rfl) (by simp) (fun j u hj => by simp at hj) (by simp) (by omega) (by simp) ?_
  have ho2 := ho.upd (o' := .cells (splice #[] (0 + 0 * i31.size) []) 29 (0, 0)) 0 rfl
  have := ho2.at (i := 0) rfl
  have e : u32s #[] = #[] := by simp [u32s]
  exact hk tb #[] 0 29 _ (by rw [e]; exact this) (by simp) ⟨Nat.le_refl _, Nat.le_refl _⟩ (by simp) (by omega) ho2.fr
 ·refine qoD (P := Tryz.prog) (e := 29) (by kernel_rfl) hi hz [] ((d.toList.take n).map (Value.int .u32)) (by simp) (fun j u hj => by simp at hj) (by rw [hlen, hsz]; omega) hnews (by omega) (by rw [hby]; omega) (by omega) fun q hq1 hq2 => ?_
  rw [qlF _ _ rfl]
  have hcs : ([] : List Value).toArray ++ ((d.toList.take n).map (Value.int .u32)).toArray ++ Array.replicate (q - (0 + n)) (.int .u32 0) = u32s ((d.toList.take n ++ List.replicate (q - (0 + n)) (0 : Int)).toArray) := by
   rw [qkh]
   apply Array.ext'
   simp
  rw [hcs]
  have ho := ho.drew.alloc (.cells (u32s ((d.toList.take n ++ List.replicate (q - (0 + n)) (0 : Int)).toArray)) 29 (0, 0))
  have hl : (d.toList.take n).length = n := by simp; omega
  rw [Nat.zero_add]
  refine hk _ _ q _ _ (by have := ho.at (i := 0) rfl; rw [Nat.zero_add] at this; exact this) (by simp; omega) ⟨by omega, by simp; omega⟩ ?_ (by show w.heap.size <= w1.heap.size; omega) (by rw [Nat.zero_add] at ho; exact ho.fr)
  show ((d.toList.take n ++ List.replicate (q - n) (0 : Int))).take n = _
  rw [List.take_append_of_le_length (by omega), List.take_take, Nat.min_self]
theorem qeZ : ∀ {l1 l2 : List Int}, l1.Perm l2 -> l1.Pairwise (· <= ·) -> l2.Pairwise (· <= ·) -> l1 = l2
 | [], l2, h, _, _ => h.nil_eq
 | a :: l1, [], h, _, _ => absurd h.symm.nil_eq (by simp)
 | a :: l1, b :: l2, h, h1, h2 => by
  have h1' := List.pairwise_cons.1 h1
  have h2' := List.pairwise_cons.1 h2
  have hab : a = b := by
   have m1 : a ∈ b :: l2 := h.mem_iff.1 (by simp)
   have m2 : b ∈ a :: l1 := h.mem_iff.2 (by simp)
   rcases List.mem_cons.1 m1 with e | e
   ·exact e
   ·rcases List.mem_cons.1 m2 with e' | e'
    ·exact e'.symm
    ·have := h2'.1 a e
     have := h1'.1 b e'
     omega
  subst hab
  rw [qeZ h.cons_inv h1'.2 h2'.2]
def Told (w w' : World) (s : Sl) (l : List Int) : Prop :=
 (l = [] /\ s = ⟨none, 0, 0⟩) \/ ∃ b d T cap, s = ⟨some ⟨b, 0, none⟩, l.length, cap⟩ /\ w'.heap[b]? = some (.cells (u32s d) T (0, 0)) /\ l.length <= d.size /\ l.length <= cap /\ d.toList.take l.length = l /\ w.heap.size <= b /\ cap <= d.size
theorem qmR {w : World} {pb : Nat} {F : List Nat} {l : List Int} {K : Sl -> World -> Prop} (h : PoolAt w pb F l) (hl : l.length <= 1000000)
  (hk : ∀ s w', Told w w' s l -> Fr [] w w' -> K s w') : call Tryz.prog 40 [.pointer (some ⟨pb, 0, none⟩)] [.one .slice] w K := by
 refine qkA (p := some ⟨pb, 0, none⟩) ?_
 unfold qek
 have hsort := h.sorted
 obtain ⟨mb, R, d, f, rfl, hr, hm, hp, hh, hf, h1⟩ := h.ex
 rcases hr with ⟨h0, hd, hR, hb⟩ | ⟨rb, T, hR, hb, hrb, hne, hnd⟩
 ·have hl0 : l = [] := List.eq_nil_of_length_eq_zero h0
  subst hl0
  refine qad ?_
  refine qag (c := .slice) hb ⟨none, 0, 0⟩ rfl ?_
  refine qeh (s := ⟨none, 0, 0⟩) ?_
  unfold qct
  refine cond_true rfl ?_
  refine qob ?_
  exact hk _ _ (.inl ⟨rfl, rfl⟩) (.refl _ _)
 ·refine qad ?_
  refine qag (c := .slice) hb ⟨some ⟨rb, 0, none⟩, l.length, d.size⟩ rfl ?_
  dsimp only
  refine qrX hrb hnd hl fun b d' cap' T' w' c1 c2 c2' c3 c4 c5 => ?_
  dsimp only
  refine qpR (.start c1) ⟨c2, by omega⟩ fun d2 w2 s1 s2 s3 => ?_
  have hsz := s1.1
  refine hk _ _ (.inr ⟨b, d2, T', cap', rfl, s3.blk, by omega, c2'.1, ?_, c4, by omega⟩) (c5.trans' s3.fr fun i hi => by simp at hi; subst hi; exact .inr c4)
  refine qeZ ((qdQ s1).trans (by rw [c3]; exact hp)) ?_ (hsort.imp Int.le_of_lt)
  rw [List.pairwise_iff_getElem]
  intro i j hi hj hij
  have hi' : i < l.length := by simp at hi; omega
  have hj' : j < l.length := by simp at hj; omega
  have g1 := qe2 (d := d2) rfl hi' (by omega)
  have g2 := qe2 (d := d2) rfl hj' (by omega)
  rw [List.getElem?_eq_getElem hi] at g1
  rw [List.getElem?_eq_getElem hj] at g2
  rw [Option.some.inj g1, Option.some.inj g2]
  have := s2 i j (by omega) hij hj'
  simp [ltInt] at this
  exact this
abbrev encU : Int -> List Value := fun n => [Value.int .u32 n]
abbrev Rd (S : List Nat) (w : World) (s : Sl) (l : List Int) : Prop := Rds encU 1 S w s l
abbrev BufU (w : World) (s : Sl) (l : List Int) (B : List Nat) : Prop := Buf encU 1 w s l B
theorem qas : ∀ x, (encU x).length = 1 := fun _ => rfl
theorem Rd.at {S : List Nat} {w : World} {s : Sl} {l : List Int} (h : Rd S w s l) (n : Nat) {i x : Int} {K : Int -> Prop} (hi : i = n) (hx : l[n]? = some x) (k : K x) : idx s i 1 fun a => ld (.int .u32) a w K :=
 Rds.get (c := .int .u32) (y := x) h n hi hx rfl k
theorem qio {w : World} {s : Sl} {l : List Int} {B : List Nat} {x : Int} {T : TypeId} {K : Sl -> World -> Prop} (h : BufU w s l B) (hl : l.length <= 1000000)
  (kk : ∀ s' B' w', BufU w' s' (l ++ [x]) B' -> Fr B w w' -> (∀ b ∈ B', b ∈ B \/ w.heap.size <= b) -> K s' w') :
  Pt.new (.cells #[.int .u32 x] T) w fun r w1 => Pt.run [Ty1.one Cell.slice] ((Builtin.append_ #[27, 27] 27 #[.slice s.a s.len s.cap, .slice (some ⟨r, 0, none⟩) 1 1]).run Tryz.prog w1) K := by
 obtain ⟨i, hi, hz, hsz, hby⟩ := qkj
 exact Buf.push (e := 29) h qas (by simp [Value.oneCell']) (by kernel_rfl) hi hz hsz rfl rfl (by rw [hby]; omega) (by omega) kk
theorem qgp {S : List Nat} {w : World} {s : Sl} {l : List Int} {n : Int} {K : Bool -> World -> Prop} (h : Rd S w s l) (hl : l.length <= 1000000) (hk : K (decide (n ∈ l)) w) :
  call Tryz.prog 14 [.slice s.a s.len s.cap, .int .u32 n] [.one .bool] w K := by
 refine qiN (l := s) ?_
 unfold qdo
 have hlen := h.1
 refine qaf (fun x w' => w' = w /\ ∃ i : Nat, x = i /\ i <= l.length /\ ∀ j y, j < i -> l[j]? = some y -> y ≠ n) (fun x _ => ((l.length : Int) - x).toNat) ⟨rfl, 0, rfl, by omega, fun j y hj => by omega⟩ ?_
 rintro x w' ⟨rfl, i, rfl, hi, hno⟩ X hX
 refine qaa (fun hc => ?_) (fun hc => ?_)
 ·have hil : i < l.length := by have := of_decide_eq_true hc; omega
  refine Rd.at h i rfl (List.getElem?_eq_getElem hil) ?_
  refine qaa (fun he => ?_) (fun he => ?_)
  ·have he' : l[i] = n := beq_iff_eq.1 he
   rw [show decide (n ∈ l) = true by rw [decide_eq_true_iff]; rw [<- he']; exact List.getElem_mem hil] at hk
   exact hk
  ·have he' : l[i] ≠ n := fun e => by rw [e] at he; simp at he
   rw [wi _ (by omega)]
   refine hX _ _ ⟨rfl, i + 1, by omega, by omega, fun j y hj hy => ?_⟩ (by omega)
   by_cases hji : j = i
   ·subst hji
    rw [List.getElem?_eq_getElem hil] at hy
    rw [<- Option.some.inj hy]; exact he'
   ·exact hno j y (by omega) hy
 ·have hil : i = l.length := by have := of_decide_eq_false hc; omega
  rw [show decide (n ∈ l) = false by
   rw [decide_eq_false_iff_not]
   intro hm
   obtain ⟨j, hj, he⟩ := List.getElem_of_mem hm
   exact hno j n (by omega) (by rw [List.getElem?_eq_getElem hj, he]) rfl] at hk
  exact hk
theorem qfd {S S' : List Nat} {w : World} {s t : Sl} {l : List Int} {K : Bool -> World -> Prop} (h : Rd S w s l) (g : Rd S' w t l) (hl : l.length <= 1000000) (hk : ∀ w', Same w w' -> K true w') :
  call Tryz.prog 31 [.slice s.a s.len s.cap, .slice t.a t.len t.cap] [.one .bool] w K := by
 refine qh6 (a := s) (b := t) ?_
 unfold qcI
 have hlen := h.1
 refine cond_false (by rw [h.1, g.1]; simp) ?_
 refine qaf (fun x w' => Same w w' /\ ∃ i : Nat, x = i /\ i <= l.length) (fun x _ => ((l.length : Int) - x).toNat) ⟨.refl _, 0, rfl, by omega⟩ ?_
 rintro x w' ⟨hs, i, rfl, hi⟩ X hX
 have h' : Rd S w' s l := h.same hs
 have g' : Rd S' w' t l := g.same hs
 refine qaa (fun hc => ?_) (fun hc => ?_)
 ·have hil : i < l.length := by have := of_decide_eq_true hc; omega
  refine Rd.at h'.drew i rfl (List.getElem?_eq_getElem hil) ?_
  refine Rd.at g'.drew i rfl (List.getElem?_eq_getElem hil) ?_
  refine cond_false (by simp) ?_
  rw [wi _ (by omega)]
  exact hX _ _ ⟨hs.drew, i + 1, by omega, by omega⟩ (by omega)
 ·exact hk _ hs
def putAcc (n : Int) (acc : List Int × Bool) (x : Int) : List Int × Bool :=
 let a1 := if !acc.2 && decide (x >= n) then (acc.1 ++ [n], true) else acc
 (if x ≠ n then a1.1 ++ [x] else a1.1, a1.2)
def putFin (n : Int) (r : List Int × Bool) : List Int := if !r.2 then r.1 ++ [n] else r.1
def putR (l : List Int) (n : Int) : List Int := putFin n (l.foldl (putAcc n) ([], false))
theorem qp8 (n : Int) (acc : List Int × Bool) (x : Int) : (putAcc n acc x).1.length <= acc.1.length + 2 := by
 unfold putAcc
 dsimp only
 split <;> split <;> simp
theorem qkL (n : Int) : ∀ (l : List Int) (acc : List Int × Bool), (l.foldl (putAcc n) acc).1.length <= acc.1.length + 2 * l.length
 | [], acc => by simp
 | x :: l, acc => by
  have h1 := qp8 n acc x
  have h2 := qkL n l (putAcc n acc x)
  simp only [List.foldl_cons, List.length_cons]
  omega
theorem qgD (n : Int) : ∀ (l : List Int) (a : List Int), (∀ x ∈ l, n < x) -> l.foldl (putAcc n) (a, true) = (a ++ l, true)
 | [], a, _ => by simp
 | x :: l, a, h => by
  have hx := h x (by simp)
  have e : putAcc n (a, true) x = (a ++ [x], true) := by simp [putAcc, show x ≠ n by omega]
  rw [List.foldl_cons, e, qgD n l _ (fun y hy => h y (by simp [hy]))]
  simp
theorem qkW (n : Int) : ∀ (l : List Int) (a : List Int), l.Pairwise (· < ·) -> putFin n (l.foldl (putAcc n) (a, false)) = a ++ ins n l
 | [], a, _ => by simp [ins, putFin]
 | x :: l, a, h => by
  have h' := List.pairwise_cons.1 h
  simp only [List.foldl_cons, ins]
  by_cases h1 : n < x
  ·have e : putAcc n (a, false) x = (a ++ [n] ++ [x], true) := by simp [putAcc, show x >= n by omega, show x ≠ n by omega]
   rw [e, qgD n l _ (fun y hy => by have := h'.1 y hy; omega), if_pos h1]
   simp [putFin]
  ·by_cases h2 : n = x
   ·have e : putAcc n (a, false) x = (a ++ [n], true) := by simp [putAcc, show x >= n by omega, h2]
    rw [e, qgD n l _ (fun y hy => by have := h'.1 y hy; omega), if_neg h1, if_pos h2, h2]
    simp [putFin]
   ·have e : putAcc n (a, false) x = (a ++ [x], false) := by simp [putAcc, show ¬ n <= x by omega, show x ≠ n by omega]
    rw [e, if_neg h1, if_neg h2]
    have := qkW n l (a ++ [x]) h'.2
    simpa using this
theorem qix {l : List Int} {n : Int} (h : l.Pairwise (· < ·)) : putR l n = ins n l := by
 have := qkW n l [] h
 simpa [putR] using this
theorem qkl {S : List Nat} {w : World} {s : Sl} {l : List Int} {n : Int} {K : Sl -> World -> Prop} (h : Rd S w s l) (hl : l.length <= 100000)
  (hk : ∀ s' B w', BufU w' s' (putR l n) B -> Fr [] w w' -> (∀ b ∈ B, w.heap.size <= b) -> K s' w') :
  call Tryz.prog 15 [.slice s.a s.len s.cap, .int .u32 n] [.one .slice] w K := by
 refine qiY (l := s) ?_
 unfold qc9
 have hlen := h.1
 refine Own.new (Own.start [] w) fun b0 w1 e0 s0 ho => ?_
 have hB0 : BufU w1 ⟨some ⟨b0, 0, none⟩, 0, 0⟩ [] [b0] := Buf.fresh qas (ho.at (i := 0) rfl) rfl (Nat.le_refl _) (by simp) (by simp)
 have key : ∀ {w2 : World}, Fr [] w w2 -> ∀ {s2 : Sl} {l2 : List Int} {B2 : List Nat}, BufU w2 s2 l2 B2 -> (∀ b ∈ B2, w.heap.size <= b) -> l2.length <= 300000 -> ∀ {x : Int} {T : TypeId} {K : Sl -> World -> Prop},
   (∀ s' B' w', BufU w' s' (l2 ++ [x]) B' -> Fr [] w w' -> (∀ b ∈ B', w.heap.size <= b) -> K s' w') ->
   Pt.new (.cells #[.int .u32 x] T) w2 fun r w1 => Pt.run [Ty1.one Cell.slice] ((Builtin.append_ #[27, 27] 27 #[.slice s2.a s2.len s2.cap, .slice (some ⟨r, 0, none⟩) 1 1]).run Tryz.prog w1) K := by
  intro w2 f2 s2 l2 B2 hb hB hl2 x T K kk
  refine qio hb (by omega) fun s' B' w' g1 g2 g3 => kk s' B' w' g1 (f2.trans' g2 fun i hi => .inr (hB i hi)) (fun b hb => ?_)
  rcases g3 b hb with h | h
  ·exact hB b h
  ·have := f2.size; omega
 refine qaf (fun x w' => ∃ (i : Nat) (B : List Nat), x.2.2 = i /\ i <= l.length /\ BufU w' x.1 ((l.take i).foldl (putAcc n) ([], false)).1 B /\ x.2.1 = ((l.take i).foldl (putAcc n) ([], false)).2 /\ Fr [] w w' /\ ∀ b ∈ B, w.heap.size <= b) (fun x _ => ((l.length : Int) - x.2.2).toNat)
  ⟨0, [b0], rfl, by omega, by simpa using hB0, rfl, ho.fr, fun b hb => by simp at hb; omega⟩ ?_
 rintro ⟨sa, da, ia⟩ w2 ⟨i, B, hi0, hi, hb, hd, hf, hB⟩ X hX
 simp only at hi0 hb hd
 subst hi0
 have hh : Rd S w2 s l := h.frame0 hf
 dsimp only
 generalize hacc : (l.take i).foldl (putAcc n) ([], false) = acc at hb hd
 have hacclen : acc.1.length <= 2 * i := by
  have := qkL n (l.take i) ([], false)
  rw [hacc, List.length_take] at this
  simp at this
  omega
 refine qaa (fun hc => ?_) (fun hc => ?_)
 ·have hil : i < l.length := by have := of_decide_eq_true hc; omega
  have hget := List.getElem?_eq_getElem hil
  have hnext : (l.take (i + 1)).foldl (putAcc n) ([], false) = putAcc n acc l[i] := by
   rw [List.take_succ_eq_append_getElem hil, List.foldl_append, hacc]; rfl
  refine qae (fun (x : Sl × Bool) w' => ∃ B, BufU w' x.1 (putAcc n acc l[i]).1 B /\ x.2 = (putAcc n acc l[i]).2 /\ Fr [] w w' /\ ∀ b ∈ B, w.heap.size <= b) ?_ ?_
  ·refine qae (fun (x : Sl × Bool) w' => ∃ B, BufU w' x.1 (if !acc.2 && decide (l[i] >= n) then (acc.1 ++ [n], true) else acc).1 B /\ x.2 = (if !acc.2 && decide (l[i] >= n) then (acc.1 ++ [n], true) else acc).2 /\ Fr [] w w' /\ ∀ b ∈ B, w.heap.size <= b) ?_ ?_
   ·refine qae (fun x w' => x = (!acc.2 && decide (l[i] >= n)) /\ w' = w2) ?_ ?_
    ·rw [hd]
     refine qaa (fun hc => ?_) (fun hc => ?_)
     ·refine Rd.at hh i rfl hget ⟨?_, rfl⟩
      rw [hc, Bool.true_and]
     ·exact ⟨by rw [hc]; rfl, rfl⟩
    ·rintro x w' ⟨rfl, rfl⟩
     refine qaa (fun hc => ?_) (fun hc => ?_)
     ·rw [if_pos hc]
      exact key hf hb hB (by omega) fun s' B' w' g1 g2 g3 => ⟨B', g1, rfl, g2, g3⟩
     ·rw [if_neg (by rw [hc]; simp)]
      exact ⟨B, hb, hd, hf, hB⟩
   ·rintro ⟨s3, d3⟩ w3 ⟨B3, h3, hd3, f3, hB3⟩
    simp only at h3 hd3
    have hh3 : Rd S w3 s l := h.frame0 f3
    refine Rd.at hh3 i rfl hget ?_
    generalize hacc3 : (if !acc.2 && decide (l[i] >= n) then (acc.1 ++ [n], true) else acc) = acc3 at h3 hd3
    have hl3 : acc3.1.length <= 2 * i + 1 := by rw [<- hacc3]; split <;> (try rw [List.length_append, List.length_singleton]) <;> omega
    have hput : putAcc n acc l[i] = (if l[i] ≠ n then acc3.1 ++ [l[i]] else acc3.1, acc3.2) := by unfold putAcc; rw [hacc3]
    rw [hput]
    refine qaa (fun hc => ?_) (fun hc => ?_)
    ·have hne : l[i] ≠ n := by simpa using hc
     refine Rd.at hh3 i rfl hget ?_
     rw [if_pos hne]
     exact key f3 h3 hB3 (by omega) fun s' B' w' g1 g2 g3 => ⟨B', g1, hd3, g2, g3⟩
    ·have hne : ¬ l[i] ≠ n := by simpa using hc
     rw [if_neg hne]
     exact ⟨B3, h3, hd3, f3, hB3⟩
  ·rintro ⟨s4, d4⟩ w4 ⟨B4, h4, hd4, f4, hB4⟩
   rw [wi _ (by omega)]
   exact hX _ _ ⟨i + 1, B4, by simp, by omega, by rw [hnext]; exact h4, by rw [hnext]; exact hd4, f4, hB4⟩ (by dsimp only; omega)
 ·have hil : i = l.length := by have := of_decide_eq_false hc; omega
  subst hil
  rw [List.take_length] at hacc
  have hput : putR l n = if !acc.2 then acc.1 ++ [n] else acc.1 := by unfold putR; rw [hacc]; rfl
  refine qae (fun s' w' => ∃ B, BufU w' s' (putR l n) B /\ Fr [] w w' /\ ∀ b ∈ B, w.heap.size <= b) ?_ (fun s' w' ⟨B', g1, g2, g3⟩ => hk s' B' w' g1 g2 g3)
  rw [hd, hput]
  refine qaa (fun hc => ?_) (fun hc => ?_)
  ·rw [if_pos hc]
   exact key hf hb hB (by omega) fun s' B' w' g1 g2 g3 => ⟨B', g1, g2, g3⟩
  ·rw [if_neg (by rw [hc]; simp)]
   exact ⟨B, hb, hf, hB⟩
theorem qjP {w0 w : World} {F F' : List Nat} (hF : ∀ b ∈ F, w0.heap.size <= b) (hs : w0.heap.size <= w.heap.size) (h : ∀ b ∈ F', b ∈ F \/ w.heap.size <= b) : ∀ b ∈ F', w0.heap.size <= b := by
 intro b hb
 rcases h b hb with h | h
 ·exact hF b h
 ·omega
end Go.Proofs.YtmbcedengdoamaaGreatDoor
end
section
set_option linter.unusedVariables false
set_option linter.unusedSimpArgs false
namespace Go.Proofs.YtmbcedengdoamaaGreatDoor
open Go Go.Pt
attribute [local irreducible] ld ldA ldV fld fldA newZ st new idx idxS idxA slc slcS slcP mkS chk nn call callV inv run runQ runU join loop held ext rng undefer IntKind.wrap
abbrev encB : Int -> List Value := fun n => [Value.int .u8 n]
abbrev RdB (S : List Nat) (w : World) (s : Sl) (l : List Int) : Prop := Rds encB 1 S w s l
abbrev BufB (w : World) (s : Sl) (l : List Int) (B : List Nat) : Prop := Buf encB 1 w s l B
theorem qaq : ∀ x, (encB x).length = 1 := fun _ => rfl
def bytesA (l : List Int) : Array Value := (l.map (Value.int .u8)).toArray
theorem qfk (l : List Int) : (bytesA l).size = l.length := by simp [bytesA]
theorem qaL (l : List Int) : l.flatMap encB = l.map (Value.int .u8) := by
 induction l with
 | nil => rfl
 | cons a l ih => rw [List.flatMap_cons, ih]; rfl
theorem qnG : ∃ i, Tryz.prog.info? 5 = some i /\ i.zero = some (.int .u8 0) /\ i.size = 1 /\ i.bytes = 1 := qeX (by kernel_rfl)
theorem RdB.at {S : List Nat} {w : World} {s : Sl} {l : List Int} (h : RdB S w s l) (n : Nat) {i x : Int} {K : Int -> Prop} (hi : i = n) (hx : l[n]? = some x) (k : K x) : idx s i 1 fun a => ld (.int .u8) a w K :=
 Rds.get (c := .int .u8) (y := x) h n hi hx rfl k
theorem qeY {S : List Nat} {w : World} {b o n cap : Nat} {L : List Int} {T : TypeId} {fr : Nat × Nat} (hb : w.heap[b]? = some (.cells (bytesA L) T fr)) (hn : o + n <= L.length) (hc : n <= cap) (hS : b ∉ S) : RdB S w ⟨some ⟨b, o, none⟩, n, cap⟩ ((L.drop o).take n) := by
 refine ⟨by rw [List.length_take, List.length_drop]; dsimp only; omega, hc, .inr ⟨b, o, _, T, _, rfl, hb, hS, fun i x hx => ?_⟩⟩
 have hi := (List.getElem?_eq_some_iff.1 hx).1
 rw [List.length_take, List.length_drop] at hi
 rw [List.getElem?_take, if_pos (by omega), List.getElem?_drop] at hx
 rw [Nat.mul_one]
 apply List.ext_getElem?
 intro j
 rw [List.getElem?_take, List.getElem?_drop]
 match j with
 | 0 => simp [bytesA, hx]
 | j + 1 => simp
theorem qpz {b o len cap : Nat} {lo hi : Int} {size : Nat} {K : Sl -> Prop} (h0 : 0 <= lo) (h1 : lo <= hi) (h2 : hi <= cap) (h3 : lo < cap) (k : K ⟨some ⟨b, o + lo.toNat * size, none⟩, hi.toNat - lo.toNat, cap - lo.toNat⟩) : slc ⟨some ⟨b, o, none⟩, len, cap⟩ (some lo) (some hi) none size K := by
 unfold slc
 refine ⟨by simpa using ⟨h0, h1, h2⟩, ?_⟩
 simp only [Option.getD_none, Option.getD_some, Int.toNat_natCast]
 rw [if_neg (by omega)]
 simp only [Option.map_some, Addr.add_mk]
 exact k
theorem qoi {b o len cap : Nat} {lo : Int} {size : Nat} {K : Sl -> Prop} (h0 : 0 <= lo) (h1 : lo <= len) (h2 : len <= cap) (h3 : lo < cap) (k : K ⟨some ⟨b, o + lo.toNat * size, none⟩, len - lo.toNat, cap - lo.toNat⟩) : slc ⟨some ⟨b, o, none⟩, len, cap⟩ (some lo) none none size K := by
 unfold slc
 refine ⟨by simp; omega, ?_⟩
 simp only [Option.getD_none, Option.getD_some, Int.toNat_natCast]
 rw [if_neg (by omega)]
 simp only [Option.map_some, Addr.add_mk]
 exact k
theorem Rds.part {α : Type} {enc : α -> List Value} {k : Nat} {S : List Nat} {w : World} {s : Sl} {l : List α} (h : Rds enc k S w s l) {lo hi : Option Int} (a b : Nat) {K : Sl -> Prop} (hlo : lo.getD 0 = a) (hhi : hi.getD s.len = b) (hab : a <= b) (hb : b <= l.length)
  (kk : ∀ s', s'.len = b - a -> Rds enc k S w s' ((l.take b).drop a) -> (s.a.isNone = true -> s'.a.isNone = true) -> K s') : slc s lo hi none k K := by
 obtain ⟨h1, h2, h3⟩ := h
 unfold slc
 refine ⟨by rw [hlo, hhi]; simp; omega, kk _ ?_ ⟨?_, ?_, ?_⟩ ?_⟩
 ·rw [hlo, hhi]; simp
 ·rw [hlo, hhi]; simp; omega
 ·rw [hlo, hhi]; simp; omega
 ·by_cases he : (l.take b).drop a = []
  ·exact .inl he
  ·right
   have hlt : a < b := by
    rcases Nat.lt_or_ge a b with h | h
    ·exact h
    ·exact absurd (by rw [List.drop_eq_nil_of_le]; simp; omega) he
   rcases h3 with h3 | ⟨bl, o, cs, T, fr, ha, hbl, hnS, hc⟩
   ·rw [h3] at hb; simp at hb; omega
   ·refine ⟨bl, o + a * k, cs, T, fr, ?_, hbl, hnS, fun i x hx => ?_⟩
    ·rw [hlo]
     simp only [Option.getD_none, Int.toNat_natCast]
     rw [if_neg (by omega), ha]
     simp [Addr.add_mk]
    ·rw [List.getElem?_drop, List.getElem?_take] at hx
     split at hx
     ·have := hc (a + i) x hx
      rw [<- this, Nat.add_mul, Nat.add_assoc]
     ·cases hx
 ·intro hn
  rw [Option.isNone_iff_eq_none] at hn
  rw [hn]
  simp
def byteAt (n : Int) (j : Nat) : Int := IntKind.wrap .u8 (Int.fdiv n (2 ^ min (8 * j) 32))
def be (n : Int) (k : Nat) : List Int := (List.range k).map fun i => byteAt n (k - 1 - i)
theorem qah (n : Int) (k : Nat) : (be n k).length = k := by simp [be]
theorem wi' (n : Int) (h : -1000000000000000 <= n /\ n <= 1000000000000000) : IntKind.wrap .i64 n = n := by rw [IntWalk.i64_in]; omega
theorem qod {S : List Nat} {w0 w : World} {L : List (Nat × Obj)} {b o k cap : Nat} {A X Z : List Int} {T : TypeId} {n : Int} {K : Unit -> World -> Prop} (h : Own S w0 w L) (i : Nat) (hi : L[i]? = some (b, .cells (bytesA (A ++ X ++ Z)) T (0, 0))) (ho : A.length = o) (hX : X.length = k) (hk4 : k <= 4)
  (hk : ∀ w', Own S w0 w' (L.set i (b, .cells (bytesA (A ++ be n k ++ Z)) T (0, 0))) -> K () w') :
  call Tryz.prog 129 [.slice (some ⟨b, o, none⟩) k cap, .int .u32 n] [] w K := by
 refine qo7 (b := ⟨some ⟨b, o, none⟩, k, cap⟩) ?_
 unfold qjK
 refine qaf (fun x w' => ∃ j : Nat, x = j /\ j <= k /\ Own S w0 w' (L.set i (b, .cells (bytesA (A ++ ((be n k).take j ++ X.drop j) ++ Z)) T (0, 0)))) (fun x _ => ((k : Int) - x).toNat) ⟨0, rfl, by omega, ?_⟩ ?_
 ·have : L.set i (b, .cells (bytesA (A ++ ((be n k).take 0 ++ X.drop 0) ++ Z)) T (0, 0)) = L := by
   apply List.ext_getElem?
   intro j
   rw [List.getElem?_set]
   by_cases hij : i = j
   ·subst hij
    rw [if_pos rfl, hi]
    have := (List.getElem?_eq_some_iff.1 hi).1
    simp [this]
   ·rw [if_neg hij]
  rw [this]; exact h
 rintro x w1 ⟨j, rfl, hj, ho1⟩ Y hY
 have hil := (List.getElem?_eq_some_iff.1 hi).1
 dsimp only
 refine qaa (fun hc => ?_) (fun hc => ?_)
 ·have hjk : j < k := by have := of_decide_eq_true hc; omega
  have e1 : IntKind.wrap .i64 (8 * IntKind.wrap .i64 (IntKind.wrap .i64 ((k : Int) - 1) - j)) = ((8 * (k - 1 - j) : Nat) : Int) := by
   rw [wi' ((k : Int) - 1) (by omega), wi' ((k : Int) - 1 - j) (by omega), wi' (8 * ((k : Int) - 1 - j)) (by omega)]; omega
  rw [e1, wi' _ (by omega)]
  refine qan (by omega) ?_
  refine qfg (by omega) (by omega) ?_
  rw [Int.toNat_natCast, Nat.mul_one, Int.toNat_natCast]
  have hXj : X.drop j = X[j] :: X.drop (j + 1) := List.drop_eq_getElem_cons (by omega)
  have hbe : (be n k).take (j + 1) = (be n k).take j ++ [byteAt n (k - 1 - j)] := by
   rw [List.take_succ_eq_append_getElem (by rw [qah]; exact hjk)]
   simp [be]
  have hlen : ((be n k).take j).length = j := by rw [List.length_take, qah]; omega
  refine Own.st ho1 i (by rw [List.getElem?_set, if_pos rfl, if_pos hil]) (bytesA (A ++ ((be n k).take (j + 1) ++ X.drop (j + 1)) ++ Z)) ?_ rfl ?_ fun w2 ho2 _ => ?_
  ·rw [splice, splice]
   apply Array.ext'
   rw [Array.toList_setIfInBounds]
   show (bytesA _).toList.set _ _ = (bytesA _).toList
   unfold bytesA
   simp only [List.toList_toArray]
   rw [<- List.map_set, hXj, hbe, List.append_assoc A, List.set_append_right _ _ (by omega)]
   rw [show o + j - A.length = j by omega, List.append_assoc ((be n k).take j), List.set_append_right _ _ (by omega), hlen, Nat.sub_self, List.cons_append, List.set_cons_zero]
   simp only [List.append_assoc, List.cons_append, List.nil_append, byteAt]
  ·refine Nat.ble_eq_true_of_le ?_
   rw [qfk, hXj]
   simp only [List.length_append, List.length_cons, List.length_nil, hlen]
   omega
  ·refine hY _ _ ⟨j + 1, by omega, by omega, ?_⟩ (by omega)
   rw [List.set_set] at ho2
   exact ho2
 ·have hjk : j = k := by have := of_decide_eq_false hc; omega
  subst hjk
  rw [List.take_of_length_le (by rw [qah]; exact Nat.le_refl _), List.drop_of_length_le (by omega), List.append_nil] at ho1
  exact hk _ ho1
def getV (l : List Int) : Int := l.foldl (fun r x => bits .or .u32 (IntKind.wrap .u32 (r * 2 ^ 8)) (IntKind.wrap .u32 x)) 0
theorem qoq {S : List Nat} {w : World} {s : Sl} {l : List Int} {K : Int -> World -> Prop} (h : RdB S w s l) (hl : l.length <= 100000) (hk : K (getV l) w) : call Tryz.prog 118 [.slice s.a s.len s.cap] [.one (.int .u32)] w K := by
 refine qpf (b := s) ?_
 unfold qjB
 have hlen := h.1
 refine qaf (fun x w' => w' = w /\ ∃ i : Nat, x.2 = i /\ i <= l.length /\ x.1 = getV (l.take i)) (fun x _ => ((l.length : Int) - x.2).toNat) ⟨rfl, 0, rfl, by omega, rfl⟩ ?_
 rintro ⟨r, ii⟩ w' ⟨rfl, i, hi0, hi, hr⟩ X hX
 simp only at hi0 hr
 subst hi0 hr
 refine qaa (fun hc => ?_) (fun hc => ?_)
 ·have hil : i < l.length := by have := of_decide_eq_true hc; omega
  refine RdB.at h i rfl (List.getElem?_eq_getElem hil) ?_
  rw [wi' _ (by omega)]
  refine hX _ _ ⟨rfl, i + 1, by simp, by omega, ?_⟩ (by dsimp only; omega)
  rw [List.take_succ_eq_append_getElem hil, getV, getV, List.foldl_append]
  rfl
 ·have hil : i = l.length := by have := of_decide_eq_false hc; omega
  subst hil
  rw [List.take_length]
  exact hk
theorem qkZ {S : List Nat} {w : World} {s : Sl} {l : List Int} {K : Sl -> World -> Prop} (h : RdB S w s l) (hl : l.length <= 1000000)
  (hk : ∀ s' B w', BufB w' s' l B -> Fr [] w w' -> (∀ b ∈ B, w.heap.size <= b) -> (s.a.isNone = true -> s' = ⟨none, 0, 0⟩) -> (s.a.isNone = false -> s'.a.isNone = false) -> K s' w') :
  cond (Option.isNone s.a) (K ⟨none, 0, 0⟩ w) (new (.cells #[] 5) w fun r w1 => Pt.run [Ty1.one Cell.slice] ((Builtin.append_ #[22, 22] 22 #[.slice (some ⟨r, 0, none⟩) 0 0, .slice s.a s.len s.cap]).run Tryz.prog w1) fun s' w' => K s' w') := by
 obtain ⟨i5, hi, hz, hsz, hby⟩ := qnG
 refine qaa (fun hc => ?_) (fun hc => ?_)
 ·have hl0 : l = [] := by
   rcases h.2.2 with h3 | ⟨b, o, cs, T, fr, ha, _⟩
   ·exact h3
   ·rw [ha] at hc; cases hc
  subst hl0
  exact hk _ [] w (.nil _ _ _) (.refl _ _) (by simp) (fun _ => rfl) (fun h => by rw [hc] at h; cases h)
 ·obtain ⟨a, ha⟩ : ∃ a, s.a = some a := by cases hs : s.a with | none => rw [hs] at hc; cases hc | some a => exact ⟨a, rfl⟩
  have ho := Own.start [] w
  refine Own.new ho fun r w1 e1 s1 ho => ?_
  have h1 : RdB S w1 s l := h.frame0 ho.fr
  have hb : BufB w1 ⟨some ⟨r, 0, none⟩, 0, 0⟩ [] [r] := Buf.fresh qaq (ho.at (i := 0) rfl) rfl (Nat.le_refl _) (by simp) (by simp)
  have hlen := h.1
  rw [ha]
  refine Buf.appSrc (s := ⟨some ⟨r, 0, none⟩, 0, 0⟩) (ys := l) (e := 5) hb qaq (by kernel_rfl) hi hz hsz rfl (.ofSlice _ (e' := 5) (by kernel_rfl) a s.len s.cap _ ?_ (h1.cells qaq ha) ?_) hlen (by rw [hby, hlen]; simp; omega) (by rw [hlen]; simp; omega) fun s' B w' g1 g2 g3 g4 => ?_
  ·rw [qaL]; simp [hlen]
  ·intro u hu
   rw [qaL] at hu
   obtain ⟨x, _, rfl⟩ := List.mem_map.1 hu
   rfl
  ·have hBn : ∀ b ∈ B, w.heap.size <= b := fun b hb => by
    rcases g3 b hb with h | h
    ·simp at h; omega
    ·omega
   refine hk s' B w' (by simpa using g1) (ho.fr.trans' g2 (fun b hb => by simp at hb; subst hb; exact .inr (by omega))) hBn (fun h => by rw [hc] at h; cases h) (fun _ => ?_)
   rcases g4 with hn | hn
   ·exact hn
   ·simp at hn
theorem qbB {S : List Nat} {w : World} {s : Sl} {l : List Int} {K : Sl -> World -> Prop} (h : RdB S w s l) (hl : l.length <= 1000000)
  (hk : ∀ s' B w', BufB w' s' l B -> Fr [] w w' -> (∀ b ∈ B, w.heap.size <= b) -> (s.a.isNone = true -> s' = ⟨none, 0, 0⟩) -> (s.a.isNone = false -> s'.a.isNone = false) -> K s' w') :
  call Tryz.prog 42 [.slice s.a s.len s.cap] [.one .slice] w K := by
 refine qlx (s := s) ?_
 unfold qe3
 exact qkZ h hl hk
theorem qmP {S : List Nat} {w : World} {s : Sl} {l : List Int} {K : Sl -> World -> Prop} (h : RdB S w s l) (hl : l.length <= 1000000)
  (hk : ∀ s' B w', BufB w' s' l B -> Fr [] w w' -> (∀ b ∈ B, w.heap.size <= b) -> (s.a.isNone = true -> s' = ⟨none, 0, 0⟩) -> (s.a.isNone = false -> s'.a.isNone = false) -> K s' w') :
  call Tryz.prog 121 [.slice s.a s.len s.cap] [.one .slice] w K := by
 refine qmO (b := s) ?_
 unfold qgS
 exact qkZ h hl hk
def halvesL : List Int := [0, 274646895, 549293790, 820201905, 1098587580, 1361435347, 1640403810, 1905808397, 2197175160, 2460548119, 2722870694, 2987750089, 3280807620, 3553878443, 3811616794, 4084100981]
abbrev HG : Nat := 0
def Hv (w : World) : Prop := ∃ T fr, w.heap[HG]? = some (.cells (halvesL.map (Value.int .u32)).toArray T fr)
theorem Hv.frame {S : List Nat} {w w' : World} (h : Hv w) (f : Fr S w w') (hS : HG ∉ S) : Hv w' := by
 obtain ⟨T, fr, hb⟩ := h
 exact ⟨T, fr, by rw [f.block HG (qac hb) hS]; exact hb⟩
theorem Hv.frame0 {w w' : World} (h : Hv w) (f : Fr [] w w') : Hv w' := h.frame f (by simp)
theorem Hv.lt {w : World} (h : Hv w) : HG < w.heap.size := by obtain ⟨T, fr, hb⟩ := h; exact qac hb
theorem qqS (x : Int) : 0 <= bits .and .u32 x 15 /\ bits .and .u32 x 15 < 16 := by
 have h1 : (BitVec.ofInt 32 x &&& BitVec.ofInt 32 15).toNat < 16 := by
  rw [BitVec.toNat_and]
  exact Nat.lt_of_le_of_lt Nat.and_le_right (by decide)
 have h2 : bits .and .u32 x 15 = ((BitVec.ofInt 32 x &&& BitVec.ofInt 32 15).toNat : Int) := by
  show IntKind.wrap .u32 _ = _
  unfold IntKind.wrap
  have : (IntKind.u32.signed) = false := rfl
  simp only [this, Bool.false_and, Bool.false_eq_true, if_false]
  have e : ((2 : Int) ^ IntKind.u32.bits) = 4294967296 := rfl
  rw [e]
  exact Int.emod_eq_of_lt (by omega) (by
   have : (BitVec.ofInt IntKind.u32.bits x &&& BitVec.ofInt IntKind.u32.bits 15).toNat < 16 := h1
   omega)
 rw [h2]
 omega
def half (x : Int) : Int := halvesL.getD x.toNat 0
def turn4 (r : Int) : Int := bits .xor .u32 (Int.fdiv r (2 ^ 4)) (half (bits .and .u32 r 15))
def crcStep (r x : Int) : Int := turn4 (turn4 (bits .xor .u32 r (IntKind.wrap .u32 x)))
def moreV (sum : Int) (l : List Int) : Int := bits .xor .u32 (l.foldl crcStep (bits .xor .u32 sum 4294967295)) 4294967295
def sumV (l : List Int) : Int := moreV 0 l
theorem qpB {w : World} {x : Int} {K : Int -> Prop} (h : Hv w) (k : K (half (bits .and .u32 x 15))) : ld (.int .u32) (Addr.add ⟨HG, 0, none⟩ (Int.toNat (bits .and .u32 x 15) * 1)) w K := by
 obtain ⟨T, fr, hb⟩ := h
 obtain ⟨h0, h1⟩ := qqS x
 rw [Addr.add_mk]
 refine qag hb _ ?_ k
 generalize bits .and .u32 x 15 = y at h0 h1
 have hlt : y.toNat < halvesL.length := by show y.toNat < 16; omega
 rw [Nat.zero_add, Nat.mul_one]
 simp only [List.getElem?_toArray, List.getElem?_map, List.getElem?_eq_getElem hlt, Option.map_some, half, List.getD_eq_getElem?_getD, Option.getD_some]
 rfl
theorem qs1 {S : List Nat} {w : World} {s : Sl} {l : List Int} {sum : Int} {K : Int -> World -> Prop} (h : RdB S w s l) (hv : Hv w) (hl : l.length <= 100000) (hk : K (moreV sum l) w) :
  call Tryz.prog 140 [.int .u32 sum, .slice s.a s.len s.cap] [.one (.int .u32)] w K := by
 refine qpi (b := s) ?_
 unfold qj2
 have hlen := h.1
 refine qaf (fun x w' => w' = w /\ ∃ i : Nat, x.2 = i /\ i <= l.length /\ x.1 = (l.take i).foldl crcStep (bits .xor .u32 sum 4294967295)) (fun x _ => ((l.length : Int) - x.2).toNat) ⟨rfl, 0, rfl, by omega, rfl⟩ ?_
 rintro ⟨r, ii⟩ w' ⟨rfl, i, hi0, hi, hr⟩ X hX
 simp only at hi0 hr
 subst hi0 hr
 refine qaa (fun hc => ?_) (fun hc => ?_)
 ·have hil : i < l.length := by have := of_decide_eq_true hc; omega
  refine RdB.at h i rfl (List.getElem?_eq_getElem hil) ?_
  refine qan (qqS _) ?_
  refine qpB hv ?_
  refine qan (qqS _) ?_
  refine qpB hv ?_
  rw [wi' _ (by omega)]
  refine hX _ _ ⟨rfl, i + 1, by simp, by omega, ?_⟩ (by dsimp only; omega)
  rw [List.take_succ_eq_append_getElem hil, List.foldl_append]
  rfl
 ·have hil : i = l.length := by have := of_decide_eq_false hc; omega
  subst hil
  rw [List.take_length]
  exact hk
theorem qra {S : List Nat} {w : World} {s : Sl} {l : List Int} {K : Int -> World -> Prop} (h : RdB S w s l) (hv : Hv w) (hl : l.length <= 100000) (hk : K (sumV l) w) :
  call Tryz.prog 119 [.slice s.a s.len s.cap] [.one (.int .u32)] w K := by
 refine qpZ (b := s) ?_
 unfold qln
 exact qs1 h hv hl hk
end Go.Proofs.YtmbcedengdoamaaGreatDoor
end
section
namespace Go.Proofs.YtmbcedengdoamaaGreatDoor
open Go.ChangeShapes Go.WideShapes Go.ChangeAt Go.RowKit Go.Pt
set_option linter.unusedVariables false
theorem qtL : ownKnob Tryz.prog.godebug = none := by kernel_rfl
theorem qrd : laidOutB Tryz.prog = true := by kernel_rfl
abbrev laidH : List (String × DataW Unit) := [("cashbook/crc.halves", Rows.laid_cashbook_crc_halves)]
theorem qpU : Tryz.prog.globalNamed "cashbook/crc.halves" = some HG := by kernel_rfl
theorem qsH : (Tryz.prog.globals[HG]?).map (·.type) = some 242 := by kernel_rfl
theorem qsY : Tryz.prog.underlying 242 = some (.array 16 29) := by kernel_rfl
theorem qsl : Tryz.prog.underlying 29 = some (.int .u32) := by kernel_rfl
set_option maxRecDepth 100000 in
theorem qrS (os : Os) (args : Array Value) : laidMetH Tryz.prog laidH ((World.doorLaid Tryz.prog 4000 os).forCall (fun _ _ => 0) ⟨#[], args, []⟩).memory :=
 laidMetH_of_parts3 (fuel := 8) (laidMet_of_run' 8 (by kernel_rfl) (by kernel_rfl)) (by kernel_rfl) (by kernel_rfl)
theorem qqe {W : World} (h : laidMetH Tryz.prog laidH W) : Hv W := by
 rw [MakeChecks.laidMetH_plain _ _ _ (by kernel_rfl)] at h
 obtain ⟨ps, ⟨g0, t0, cs0, f0, p0, q0, hg0, ht0, hv0, hd0, _, _⟩, _, _⟩ := h
 obtain rfl := Option.some.inj (qpU.symm.trans hg0)
 obtain rfl := Option.some.inj (qsH.symm.trans ht0)
 obtain ⟨xs, m1, rfl, hx1, hlen, hn3, hel⟩ := DataW.trod_array qsY hd0
 simp only [Prod.mk.injEq] at hx1
 have hx := hx1.1
 unfold Rows.laid_cashbook_crc_halves at hx
 rw [DataW.agg.injEq] at hx
 have c31 : Tryz.prog.cellsOf 29 = 1 := by kernel_rfl
 have hcl : Tryz.prog.cellsOf 242 = 16 := by kernel_rfl
 have hb : ∃ T fr, W.heap[HG]? = some (.cells cs0 T fr) := by
  unfold World.var? at hv0
  rw [qpU, Option.bind_some] at hv0
  split at hv0
  ·rename_i cs T fr hb
   cases hv0
   exact ⟨T, fr, hb⟩
  ·cases hv0
 obtain ⟨T, fr, hb⟩ := hb
 have key : ∀ (i : Nat) (n : Int), (xs.map (·.1))[i]? = some (DataW.lit (.int .u32 n)) -> cs0.toList[i]? = some (.int .u32 n) := by
  intro i n hi
  rw [List.getElem?_map] at hi
  obtain ⟨y, hy, hyn⟩ := Option.map_eq_some_iff.1 hi
  have hil : i < xs.length := (List.getElem?_eq_some_iff.1 hy).1
  have h1 := hel i (by omega)
  rw [c31] at h1
  rw [hy] at h1
  obtain ⟨k, e1, e2, _⟩ := DataW.trod_int qsl h1
  rw [e2] at hyn
  have hk : k = n := by simpa using hyn
  subst hk
  have := congrArg (·[0]?) e1
  simpa using this
 refine ⟨T, fr, ?_⟩
 rw [hb]
 refine congrArg (fun c => some (Obj.cells c T fr)) ?_
 apply Array.ext'
 apply List.ext_getElem?
 intro i
 have hsz : cs0.toList.length = 16 := hlen.trans hcl
 have hx' : xs.map (·.1) = halvesL.map (fun n => DataW.lit (.int .u32 n)) := hx.symm
 by_cases hi : i < halvesL.length
 ·have h1 := key i halvesL[i] (by rw [hx', List.getElem?_map, List.getElem?_eq_getElem hi]; rfl)
  rw [h1]
  show _ = (halvesL.map (Value.int .u32))[i]?
  rw [List.getElem?_map, List.getElem?_eq_getElem hi]
  rfl
 ·have h16 : halvesL.length = 16 := rfl
  rw [List.getElem?_eq_none (by omega)]
  exact (List.getElem?_eq_none (by rw [List.length_map]; omega)).symm
theorem qqN {x : Int} (h : IntKind.u8.has x) : 0 <= x /\ x < 256 := by
 have h' : (0 : Int) <= x /\ x <= 255 := h
 omega
theorem qtl {x : Int} (h : IntKind.u16.has x) : 0 <= x /\ x < 65536 := by
 have h' : (0 : Int) <= x /\ x <= 65535 := h
 omega
theorem qtE {x : Int} (h : IntKind.u32.has x) : 0 <= x /\ x < 4294967296 := by
 have h' : (0 : Int) <= x /\ x <= 4294967295 := h
 omega
end Go.Proofs.YtmbcedengdoamaaGreatDoor
end
section
set_option linter.unusedVariables false
set_option maxRecDepth 100000
namespace Go.Proofs.YtmbcedengdoamaaGreatDoor
open Go Go.Pt
def qfc (free : Int) (K : Int -> World -> Prop) (w : World) : Prop := cond (decide (free < 1)) (K 0 w) (K (IntKind.wrap .i64 (IntKind.wrap .i64 (Int.tdiv (IntKind.wrap .i64 (free - 1)) 124) + 1)) w)
def qh0 : List Ann := [.n, .n, .n, .n, .n]
theorem qld {free : Int} {w : World} {K : Int -> World -> Prop} (hF : qfc free K w) : call Tryz.prog 88 [.int .i64 free] [.one (.int .i64)] w K := qab (an := qh0) Tryz.func88 (by kernel_rfl) ((show fnPt (std Tryz.prog) Tryz.prog Tryz.f88 qh0 [.one (.int .i64)] [.int .i64 free] K w = qfc free K w by kernel_rfl).mpr hF)
def qew (l : Sl) (K : Bool -> World -> Prop) (w : World) : Prop := loop (Int × Int) (fun X_1 (t_2 : Int × Int) w_3 => cond (decide (t_2.snd < (↑l.len : Int))) (idx l t_2.snd 1 <| fun a_4 => ld (.int .u32) a_4 w_3 <| fun (x_5 : Int) => cond (decide (x_5 <= t_2.fst)) (K false w_3) (X_1 ((x_5, IntKind.wrap .i64 (t_2.snd + 1))) w_3)) (K true w_3)) ((1, 0)) w
def qhm : List Ann := [.n, .n, .n, .n, .l [(3, .one (.int .u32)), (8, .one (.int .i64))], .n, .n, .n, .n, .n, .n, .n, .n]
theorem qkw {l : Sl} {w : World} {K : Bool -> World -> Prop} (hF : qew l K w) : call Tryz.prog 132 [.slice l.a l.len l.cap] [.one .bool] w K := qab (an := qhm) Tryz.func132 (by kernel_rfl) ((show fnPt (std Tryz.prog) Tryz.prog Tryz.f132 qhm [.one .bool] [.slice l.a l.len l.cap] K w = qew l K w by kernel_rfl).mpr hF)
def qfR (b : Sl) (n : Int) (K : Sl -> World -> Prop) (w : World) : Prop := new (Obj.cells #[.int .u8 (IntKind.wrap .u8 (Int.fdiv n (2 ^ 24))), .int .u8 (IntKind.wrap .u8 (Int.fdiv n (2 ^ 16))), .int .u8 (IntKind.wrap .u8 (Int.fdiv n (2 ^ 8))), .int .u8 (IntKind.wrap .u8 n)] 5) w <| fun r_1 w_2 => run [.one .slice] ((Builtin.append_ (#[22, 22]) 22 (#[.slice b.a b.len b.cap, .slice (some ⟨r_1, 0, none⟩) 4 4])).run Tryz.prog w_2) <| fun (s_3 : Sl) w_4 => K s_3 w_4
def qi7 : List Ann := [.n, .n]
theorem qms {b : Sl} {n : Int} {w : World} {K : Sl -> World -> Prop} (hF : qfR b n K w) : call Tryz.prog 145 [.slice b.a b.len b.cap, .int .u32 n] [.one .slice] w K := qab (an := qi7) Tryz.func145 (by kernel_rfl) ((show fnPt (std Tryz.prog) Tryz.prog Tryz.f145 qi7 [.one .slice] [.slice b.a b.len b.cap, .int .u32 n] K w = qfR b n K w by kernel_rfl).mpr hF)
def qej (l : Sl) (pages : Int) (K : Value -> World -> Prop) (w : World) : Prop := new (Obj.cells #[.slice l.a l.len l.cap] 27) w <| fun r_1 w_2 => new (Obj.cells #[.int .i64 pages] 3) w_2 <| fun r_3 w_4 => K (Value.func (Fn.func 167) #[] #[.pointer (some ⟨r_3, 0, none⟩), .pointer (some ⟨r_1, 0, none⟩)]) w_4
def qg9 : List Ann := [.n, .n]
theorem qkD {l : Sl} {pages : Int} {w : World} {K : Value -> World -> Prop} (hF : qej l pages K w) : call Tryz.prog 144 [.slice l.a l.len l.cap, .int .i64 pages] [.one .any] w K := qab (an := qg9) Tryz.func144 (by kernel_rfl) ((show fnPt (std Tryz.prog) Tryz.prog Tryz.f144 qg9 [.one .any] [.slice l.a l.len l.cap, .int .i64 pages] K w = qej l pages K w by kernel_rfl).mpr hF)
def qdd (yield : Value) (cap0 : Addr) (cap1 : Addr) (K : Unit -> World -> Prop) (w : World) : Prop := ld (.int .i64) cap0 w <| fun (x_1 : Int) => loop (Int) (fun X_2 (x_3 : Int) w_4 => cond (decide (x_3 < x_1)) (ld .slice cap1 w_4 <| fun (s_5 : Sl) => ld .slice cap1 w_4 <| fun (s_6 : Sl) => slc s_6 none (some (if 123 < (↑s_5.len : Int) then 123 else (↑s_5.len : Int))) none 1 <| fun (s_7 : Sl) => callV Tryz.prog yield ([.int .i64 x_3, .slice s_7.a s_7.len s_7.cap]) ([.one .bool]) w_4 <| fun (b_8 : Bool) w_9 => cond (!b_8) (K () w_9) (ld .slice cap1 w_9 <| fun (s_10 : Sl) => slc s_10 (some (if 123 < (↑s_5.len : Int) then 123 else (↑s_5.len : Int))) none none 1 <| fun (s_11 : Sl) => st cap1 ([.slice s_11.a s_11.len s_11.cap]) w_9 <| fun w_12 => X_2 (IntKind.wrap .i64 (x_3 + 1)) w_12)) (K () w_4)) 0 w
def qfH : List Ann := [.n, .l [(7, .one (.int .i64))], .n, .n, .n, .n, .n, .n, .n]
theorem qiX {yield : Value} {cap0 : Addr} {cap1 : Addr} {w : World} {K : Unit -> World -> Prop} (hF : qdd yield cap0 cap1 K w) : call Tryz.prog 167 [yield, .pointer (some cap0), .pointer (some cap1)] [] w K := qab (an := qfH) Tryz.func167 (by kernel_rfl) ((show fnPt (std Tryz.prog) Tryz.prog Tryz.f167 qfH [] [yield, .pointer (some cap0), .pointer (some cap1)] K w = qdd yield cap0 cap1 K w by kernel_rfl).mpr hF)
def qdW (numbers : Sl) (pages : Sl) (K : (Sl × Int) -> World -> Prop) (w : World) : Prop := new (Obj.cells #[.slice pages.a pages.len pages.cap] 27) w <| fun r_1 w_2 => join (Bool) (fun X_3 => call Tryz.prog 132 ([.slice numbers.a numbers.len numbers.cap]) ([.one .bool]) w_2 <| fun (b_4 : Bool) w_5 => cond (!b_4) (X_3 true w_5) (ld .slice ⟨r_1, 0, none⟩ w_5 <| fun (s_6 : Sl) => X_3 (decide ((↑numbers.len : Int) > IntKind.wrap .i64 (123 * (↑s_6.len : Int)))) w_5)) <| fun (b_7 : Bool) w_8 => cond b_7 (K (({ a := none, len := 0, cap := 0 }, 1)) w_8) (ld .slice ⟨r_1, 0, none⟩ w_8 <| fun (s_9 : Sl) => loop (Sl × Int × Int) (fun X_10 (t_11 : Sl × Int × Int) w_12 => cond (decide (t_11.snd.snd < (↑s_9.len : Int))) (idx s_9 t_11.snd.snd 1 <| fun a_13 => ld (.int .u32) a_13 w_12 <| fun (x_14 : Int) => cond (decide (x_14 < 2)) (K (({ a := none, len := 0, cap := 0 }, 1)) w_12) (X_10 ((t_11.fst, t_11.snd.fst, IntKind.wrap .i64 (t_11.snd.snd + 1))) w_12)) (new (Obj.cells #[.slice none 0 0] 198) w_12 <| fun r_15 w_16 => ld .slice ⟨r_1, 0, none⟩ w_16 <| fun (s_17 : Sl) => call Tryz.prog 144 ([.slice numbers.a numbers.len numbers.cap, .int .i64 (↑s_17.len : Int)]) ([.one .any]) w_16 <| fun (v_18 : Value) w_19 => rng Tryz.prog v_18 [.one (.int .i64), .one .slice] (fun (t_20 : Int × Sl) (X_21 : World -> (World -> Prop) -> Prop) (X_22 : World -> Prop) X_23 w_24 => X_21 w_24 <| fun w_25 => join (Int) (fun X_26 => ld .slice ⟨r_1, 0, none⟩ w_25 <| fun (s_27 : Sl) => cond (decide (IntKind.wrap .i64 (t_20.fst + 1) < (↑s_27.len : Int))) (ld .slice ⟨r_1, 0, none⟩ w_25 <| fun (s_28 : Sl) => idx s_28 (IntKind.wrap .i64 (t_20.fst + 1)) 1 <| fun a_29 => ld (.int .u32) a_29 w_25 <| fun (x_30 : Int) => X_26 x_30 w_25) (X_26 0 w_25)) <| fun (x_31 : Int) w_32 => call Tryz.prog 145 ([.slice none 0 0, .int .u32 x_31]) ([.one .slice]) w_32 <| fun (s_33 : Sl) w_34 => new (Obj.cells #[.int .u8 (IntKind.wrap .u8 (Int.fdiv ((↑t_20.snd.len : Int)) (2 ^ 8))), .int .u8 (IntKind.wrap .u8 (↑t_20.snd.len : Int))] 5) w_34 <| fun r_35 w_36 => run [.one .slice] ((Builtin.append_ (#[22, 22]) 22 (#[.slice s_33.a s_33.len s_33.cap, .slice (some ⟨r_35, 0, none⟩) 2 2])).run Tryz.prog w_36) <| fun (s_37 : Sl) w_38 => loop (Sl × Int) (fun X_39 (t_40 : Sl × Int) w_41 => cond (decide (t_40.snd < (↑t_20.snd.len : Int))) (idx t_20.snd t_40.snd 1 <| fun a_42 => ld (.int .u32) a_42 w_41 <| fun (x_43 : Int) => call Tryz.prog 145 ([.slice t_40.fst.a t_40.fst.len t_40.fst.cap, .int .u32 x_43]) ([.one .slice]) w_41 <| fun (s_44 : Sl) w_45 => X_39 ((s_44, IntKind.wrap .i64 (t_40.snd + 1))) w_45) (ld .slice ⟨r_15, 0, none⟩ w_41 <| fun (s_46 : Sl) => new (Obj.cells #[.slice t_40.fst.a t_40.fst.len t_40.fst.cap] 22) w_41 <| fun r_47 w_48 => run [.one .slice] ((Builtin.append_ (#[198, 198]) 198 (#[.slice s_46.a s_46.len s_46.cap, .slice (some ⟨r_47, 0, none⟩) 1 1])).run Tryz.prog w_48) <| fun (s_49 : Sl) w_50 => st ⟨r_15, 0, none⟩ ([.slice s_49.a s_49.len s_49.cap]) w_50 <| fun w_51 => X_22 w_51)) ((s_37, 0)) w_38) (fun r_52 w_53 => ld .slice ⟨r_15, 0, none⟩ w_53 <| fun (s_54 : Sl) => undefer r_52 w_53 <| fun w_55 => K ((s_54, 0)) w_55) [] w_19)) (({ a := none, len := 0, cap := 0 }, 0, 0)) w_8)
def qgN : List Ann := [.n, .n, .j [(25, .one .bool)], .n, .n, .n, .l [(4, .one .slice), (5, .one (.int .i64)), (28, .one (.int .i64))], .n, .n, .n, .n, .n, .n, .n, .n, .n, .r [.one (.int .i64), .one .slice], .n, .n, .j [(11, .one (.int .u32))], .n, .n, .n, .n, .l [(12, .one .slice), (64, .one (.int .i64))], .n, .n, .n, .n, .n]
theorem qjE {numbers : Sl} {pages : Sl} {w : World} {K : (Sl × Int) -> World -> Prop} (hF : qdW numbers pages K w) : call Tryz.prog 122 [.slice numbers.a numbers.len numbers.cap, .slice pages.a pages.len pages.cap] [.one .slice, .one (.int .i64)] w K := qff (an := qgN) Tryz.func122 (by kernel_rfl) ((show fnPtS (std Tryz.prog) Tryz.prog Tryz.f122 qgN [.one .slice, .one (.int .i64)] [.slice numbers.a numbers.len numbers.cap, .slice pages.a pages.len pages.cap] K w = qdW numbers pages K w by kernel_rfl).mpr hF)
def qfP (b : Sl) (K : Int -> World -> Prop) (w : World) : Prop := idx b 0 1 <| fun a_1 => ld (.int .u8) a_1 (World.drew w) <| fun (x_2 : Int) => idx b 1 1 <| fun a_3 => ld (.int .u8) a_3 (World.drew w) <| fun (x_4 : Int) => idx b 2 1 <| fun a_5 => ld (.int .u8) a_5 (World.drew w) <| fun (x_6 : Int) => idx b 3 1 <| fun a_7 => ld (.int .u8) a_7 (World.drew w) <| fun (x_8 : Int) => K (bits BinOp.or IntKind.u32 (bits BinOp.or IntKind.u32 (bits BinOp.or IntKind.u32 (IntKind.wrap .u32 (IntKind.wrap .u32 x_2 * 2 ^ 24)) (IntKind.wrap .u32 (IntKind.wrap .u32 x_4 * 2 ^ 16))) (IntKind.wrap .u32 (IntKind.wrap .u32 x_6 * 2 ^ 8))) (IntKind.wrap .u32 x_8)) (World.drew w)
def qi9 : List Ann := [.n, .n, .o [[0, 1, 2, 3, 4, 5, 6, 7, 8, 9, 10, 11, 12, 13, 14, 15, 16, 17, 18, 19, 20, 21, 22]]]
theorem qlJ {b : Sl} {w : World} {K : Int -> World -> Prop} (hF : qfP b K w) : call Tryz.prog 131 [.slice b.a b.len b.cap] [.one (.int .u32)] w K := qab (an := qi9) Tryz.func131 (by kernel_rfl) ((show fnPt (std Tryz.prog) Tryz.prog Tryz.f131 qi9 [.one (.int .u32)] [.slice b.a b.len b.cap] K w = qfP b K w by kernel_rfl).mpr hF)
def qeE (body : Sl) (K : (Int × Sl × Int) -> World -> Prop) (w : World) : Prop := cond (decide ((↑body.len : Int) < 6)) (K ((0, { a := none, len := 0, cap := 0 }, 2)) w) (idx body 4 1 <| fun a_1 => ld (.int .u8) a_1 (World.drew w) <| fun (x_2 : Int) => idx body 5 1 <| fun a_3 => ld (.int .u8) a_3 (World.drew w) <| fun (x_4 : Int) => call Tryz.prog 131 ([.slice body.a body.len body.cap]) ([.one (.int .u32)]) (World.drew w) <| fun (x_5 : Int) w_6 => held [fun w_7 => World.cell? w_7 a_3 = some (.int .u8 x_4), fun w_8 => World.cell? w_8 a_1 = some (.int .u8 x_2)] w_6 <| join (Bool) (fun X_9 => cond (x_5 == 1) (X_9 true w_6) (cond (decide (bits BinOp.or IntKind.i64 (IntKind.wrap .i64 (IntKind.wrap .i64 x_2 * 2 ^ 8)) (IntKind.wrap .i64 x_4) > 123)) (X_9 true w_6) (X_9 (!(↑body.len : Int) == IntKind.wrap .i64 (6 + IntKind.wrap .i64 (4 * bits BinOp.or IntKind.i64 (IntKind.wrap .i64 (IntKind.wrap .i64 x_2 * 2 ^ 8)) (IntKind.wrap .i64 x_4)))) w_6))) <| fun (b_10 : Bool) w_11 => cond b_10 (K ((0, { a := none, len := 0, cap := 0 }, 2)) w_11) (loop (Sl × Int) (fun X_12 (t_13 : Sl × Int) w_14 => cond (decide (t_13.snd < bits BinOp.or IntKind.i64 (IntKind.wrap .i64 (IntKind.wrap .i64 x_2 * 2 ^ 8)) (IntKind.wrap .i64 x_4))) (slc body (some (IntKind.wrap .i64 (6 + IntKind.wrap .i64 (4 * t_13.snd)))) none none 1 <| fun (s_15 : Sl) => call Tryz.prog 131 ([.slice s_15.a s_15.len s_15.cap]) ([.one (.int .u32)]) w_14 <| fun (x_16 : Int) w_17 => new (Obj.cells #[.int .u32 x_16] 29) w_17 <| fun r_18 w_19 => run [.one .slice] ((Builtin.append_ (#[27, 27]) 27 (#[.slice t_13.fst.a t_13.fst.len t_13.fst.cap, .slice (some ⟨r_18, 0, none⟩) 1 1])).run Tryz.prog w_19) <| fun (s_20 : Sl) w_21 => X_12 ((s_20, IntKind.wrap .i64 (t_13.snd + 1))) w_21) (call Tryz.prog 132 ([.slice t_13.fst.a t_13.fst.len t_13.fst.cap]) ([.one .bool]) w_14 <| fun (b_22 : Bool) w_23 => cond (!b_22) (K ((0, { a := none, len := 0, cap := 0 }, 2)) w_23) (K ((x_5, t_13.fst, 0)) w_23))) (({ a := none, len := 0, cap := 0 }, 0)) w_11))
def qha : List Ann := [.n, .n, .n, .n, .n, .o [[0, 2, 3, 4, 5, 6, 7, 8, 9, 10, 11, 1, 12, 13]], .n, .j [(37, .one .bool)], .n, .n, .n, .n, .l [(7, .one .slice), (39, .one (.int .i64))], .n, .n, .n, .n, .n, .n, .n, .n]
theorem qkC {body : Sl} {w : World} {K : (Int × Sl × Int) -> World -> Prop} (hF : qeE body K w) : call Tryz.prog 105 [.slice body.a body.len body.cap] [.one (.int .u32), .one .slice, .one (.int .i64)] w K := qab (an := qha) Tryz.func105 (by kernel_rfl) ((show fnPt (std Tryz.prog) Tryz.prog Tryz.f105 qha [.one (.int .u32), .one .slice, .one (.int .i64)] [.slice body.a body.len body.cap] K w = qeE body K w by kernel_rfl).mpr hF)
end Go.Proofs.YtmbcedengdoamaaGreatDoor
end
section
set_option linter.unusedVariables false
namespace Go.Pt
open Go
variable {S : List Nat} {w0 w : World} {L : List (Nat × Obj)} {P : Program}
theorem qo3 (z : Value) (c : Nat) : mkCells [z] c = (List.replicate c z).toArray := by
 apply Array.ext
 ·simp [mkCells]
 ·intro i h1 h2
  simp [mkCells, Nat.mod_one]
theorem Own.mk1 {el : TypeId} {z : Value} {bytes : Nat} {l c : Int} {K : Sl -> World -> Prop} (h : Own S w0 w L) (h0 : 0 <= l) (h1 : l <= c) (h2 : (bytes : Int) * c <= 2 ^ 48) (h3 : c <= 2 ^ 48)
  (k : ∀ b w', b = w.heap.size -> Own S w0 w' ((b, .cells (List.replicate c.toNat z).toArray el (0, 0)) :: L) -> K ⟨some ⟨b, 0, none⟩, l.toNat, c.toNat⟩ w') : mkS el [z] 1 bytes l c w K := by
 refine ⟨⟨h0, h1, h2, h3⟩, ?_⟩
 have e : mkCells (if c.toNat * 1 = 0 then [] else [z]) (c.toNat * 1) = (List.replicate c.toNat z).toArray := by
  rw [Nat.mul_one]
  split
  ·rename_i hc; rw [hc]; apply Array.ext' ; simp [mkCells]
  ·exact qo3 z _
 rw [e]
 exact k _ _ rfl (h.alloc _)
theorem Own.copy1 {t t' ty el b : Nat} {cs : Array Value} {T : TypeId} {o dLen dCap : Nat} {src : Sl} {vs : List Value} {K : Int -> World -> Prop} (h : Own S w0 w L) (i : Nat) (hi : L[i]? = some (b, .cells cs T (0, 0)))
  (hu : P.underlying t = some (.slice el)) (hs : (P.info? el).map (·.size) = some 1) (hlen : vs.length = Nat.min src.len dLen) (hvs : vs ≠ [] -> ∃ a, src.a = some a /\ ∀ (j : Nat) v, vs[j]? = some v -> w.cell? (a.add j) = some v) (h1 : ∀ v ∈ vs, v.oneCell' = true)
  (hfit : o + vs.length <= cs.size) (k : ∀ w', Own S w0 w' (L.set i (b, .cells (splice cs o vs) T (0, 0))) -> K vs.length w') :
  Pt.run [Ty1.one (Cell.int .i64)] ((Builtin.copy_ #[t, t'] ty #[.slice (some ⟨b, o, none⟩) dLen dCap, .slice src.a src.len src.cap]).run P w) K := by
 by_cases h0 : vs = []
 ·subst h0
  refine ⟨((0 : Nat) : Int), w, run_copy_none w t t' ty el _ _ _ _ _ _ hu hs (by simpa using hlen.symm), ?_⟩
  have e : L.set i (b, .cells (splice cs o []) T (0, 0)) = L := by
   apply List.ext_getElem?
   intro j
   rw [List.getElem?_set]
   by_cases hij : i = j
   ·subst hij
    have := (List.getElem?_eq_some_iff.1 hi).1
    rw [if_pos rfl, hi]; simp [this, splice]
   ·rw [if_neg hij]
  have := k w (by rw [e]; exact h)
  simpa using this
 ·obtain ⟨a, ha, hc⟩ := hvs h0
  have hb := h.at hi
  have hrun := run_copy_cells (P := P) w t t' ty el b o dLen dCap a src.len src.cap vs hu hs hlen hc (fun j hj => by
   rw [qaj hb]; simp [show o + j < cs.size by omega]) (fun j hj => by simp [World.frozen?, hb]) h1
  rw [qdh hb] at hrun
  refine ⟨(vs.length : Int), _, ?_, k _ (h.upd i hi)⟩
  rw [ha]
  exact hrun
theorem qtm {P : Program} {f : FuncId} {fn : Func} {e : Array Value -> Sem Value} {args : List Value} {ts : List Ty1} {w : World} {K : ElR ts -> World -> Prop} (hf : P.funcs[f]? = some fn) (hname : (fn.name == "runtime.NumGoroutine") = false) (hb : fn.body.isNone = true) (hn : Extern.findNext fn = none) (he : Extern.find fn = some e)
  (x : ElR ts) (w' : World) (hrun : (e args.toArray).run P w = .ok (resVal ts x) w') (k : K x w') : Pt.ext P f args ts w K := by
 refine ⟨x, w', ?_, k⟩
 rw [run_callFunc_extern hf hname hb hn he]
 simp [hrun]
end Go.Pt
end
section
set_option linter.unusedVariables false
set_option linter.unusedSimpArgs false
namespace Go.Proofs.YtmbcedengdoamaaGreatDoor
open Go Go.Pt
attribute [local irreducible] ld ldA ldV fld fldA newZ st new idx idxS idxA slc slcS slcP mkS chk nn call callV inv run runQ runU join loop held ext rng undefer IntKind.wrap
theorem qgP {α : Type} (A X Y Z : List α) (h : X.length = Y.length) : (A ++ X ++ Z).take A.length ++ Y ++ (A ++ X ++ Z).drop (A.length + Y.length) = A ++ Y ++ Z := by
 have h1 : (A ++ X ++ Z).take A.length = A := by rw [List.append_assoc, List.take_append_of_le_length (Nat.le_refl _), List.take_of_length_le (Nat.le_refl _)]
 have h2 : (A ++ X ++ Z).drop (A.length + Y.length) = Z := by
  rw [<- h, <- List.length_append, List.drop_append_of_le_length (Nat.le_refl _), List.drop_of_length_le (Nat.le_refl _), List.nil_append]
 rw [h1, h2]
theorem qkg {A X Y Z : List Int} (h : X.length = Y.length) : splice (bytesA (A ++ X ++ Z)) A.length (Y.map (Value.int .u8)) = bytesA (A ++ Y ++ Z) := by
 apply Array.ext'
 rw [qau _ _ _ (by rw [qfk]; simp only [List.length_append, List.length_map]; omega)]
 have := qgP (A.map (Value.int .u8)) (X.map (Value.int .u8)) (Y.map (Value.int .u8)) (Z.map (Value.int .u8)) (by simpa using h)
 simpa only [bytesA, List.map_append, List.toList_toArray, List.length_map] using this
def zs (n : Nat) : List Int := List.replicate n 0
theorem qaC (n : Nat) : (zs n).length = n := List.length_replicate
theorem qib (a b : Nat) : zs (a + b) = zs a ++ zs b := List.replicate_append_replicate.symm
theorem qtv : zs 1 = [0] := rfl
theorem qgu (n : Nat) : (List.replicate n (Value.int .u8 0)).toArray = bytesA (zs n) := by unfold bytesA zs; rw [List.map_replicate]
theorem Own.bytes {S : List Nat} {w0 w : World} {L : List (Nat × Obj)} {b : Nat} {T : TypeId} {l l' : List Int} (h : Own S w0 w ((b, .cells (bytesA l) T (0, 0)) :: L)) (e : l = l') : Own S w0 w ((b, .cells (bytesA l') T (0, 0)) :: L) := by rw [<- e]; exact h
def restV (number kind : Int) (body : List Int) : List Int := be number 4 ++ [kind] ++ be (IntKind.wrap .u32 body.length) 2 ++ [0] ++ body ++ zs (500 - body.length)
def sealV (number kind : Int) (body : List Int) : List Int := be (sumV (restV number kind body)) 4 ++ restV number kind body
theorem qfz {number kind : Int} {body : List Int} (h : body.length <= 500) : (restV number kind body).length = 508 := by
 simp only [restV, qah, qaC, List.length_append, List.length_cons, List.length_nil]; omega
theorem qdm {number kind : Int} {body : List Int} (h : body.length <= 500) : (sealV number kind body).length = 512 := by
 rw [sealV, List.length_append, qah, qfz h]
theorem qmG {S : List Nat} {w : World} {s : Sl} {l : List Int} {number kind : Int} {K : Sl × Int -> World -> Prop} (h : RdB S w s l) (hv : Hv w) (hl : l.length <= 100000)
  (hlong : 500 < l.length -> K (⟨none, 0, 0⟩, 3) w)
  (hk : l.length <= 500 -> ∀ b T w', w'.heap[b]? = some (.cells (bytesA (sealV number kind l)) T (0, 0)) -> Fr [] w w' -> w.heap.size <= b -> K (⟨some ⟨b, 0, none⟩, 512, 512⟩, 0) w') :
  call Tryz.prog 99 [.int .u32 number, .int .u8 kind, .slice s.a s.len s.cap] [.one .slice, .one (.int .i64)] w K := by
 refine qof (body := s) ?_
 unfold qiW
 have hlen := h.1
 refine qaa (fun hc => hlong (by have := of_decide_eq_true hc; omega)) (fun hc => ?_)
 have hle : l.length <= 500 := by have := of_decide_eq_false hc; omega
 refine Own.mk1 (Own.start [] w) (by decide) (by decide) (by decide) (by decide) fun b w1 eb ho => ?_
 rw [qgu] at ho
 replace ho := Own.bytes (l' := zs 4 ++ zs 4 ++ zs 504) ho (by rw [<- qib, <- qib]; rfl)
 refine qpz (by decide) (by decide) (by decide) (by decide) ?_
 refine qod (k := 4) ho 0 rfl (qaC 4) (qaC 4) (by decide) fun w2 ho => ?_
 replace ho := Own.bytes (l' := (zs 4 ++ be number 4) ++ zs 1 ++ zs 503) ho (by rw [show (504 : Nat) = 1 + 503 from rfl, qib, List.append_assoc, List.append_assoc, List.append_assoc])
 refine qfg (by omega) (by simp) ?_
 refine Own.st ho 0 rfl _ (qkg (A := zs 4 ++ be number 4) (X := zs 1) (Y := [kind]) rfl) rfl (by rw [qfk]; simp only [List.length_append, qaC, qah]; rfl) fun w3 ho _ => ?_
 replace ho := Own.bytes (l' := (zs 4 ++ be number 4 ++ [kind]) ++ zs 2 ++ zs 501) ho (by rw [show (503 : Nat) = 2 + 501 from rfl, qib, List.append_assoc, List.append_assoc, List.append_assoc, List.append_assoc, List.append_assoc])
 refine qpz (by omega) (by omega) (by simp) (by simp) ?_
 refine qod (k := 2) ho 0 rfl (by simp only [List.length_append, qaC, qah]; rfl) (qaC 2) (by decide) fun w4 ho => ?_
 replace ho := Own.bytes (l' := (zs 4 ++ be number 4 ++ [kind] ++ be (IntKind.wrap .u32 s.len) 2 ++ [0]) ++ zs l.length ++ zs (500 - l.length)) ho (by
  rw [show (501 : Nat) = 1 + (l.length + (500 - l.length)) by omega, qib, qib, qtv]
  simp only [List.append_assoc])
 refine qoi (by omega) (by simp) (by simp) (by simp) ?_
 have h4 : RdB S w4 s l := h.frame0 ho.fr
 have e6 : (zs 4 ++ be number 4 ++ [kind] ++ be (IntKind.wrap .u32 s.len) 2 ++ [0]).length = 12 := by simp only [List.length_append, qaC, qah]; rfl
 refine Own.copy1 (el := 5) (vs := l.map (Value.int .u8)) ho 0 rfl (by kernel_rfl) (by kernel_rfl) (by rw [List.length_map, hlen]; exact (Nat.min_eq_left (by show l.length <= 500; omega)).symm) (fun hne => ?_) (fun v hv => by obtain ⟨x, _, rfl⟩ := List.mem_map.1 hv; rfl) (by rw [qfk, List.length_append, List.length_append, e6, qaC, qaC, List.length_map]; omega) fun w5 ho => ?_
 ·rcases h4.2.2 with h3 | ⟨bb, o, cs, T, fr, ha, _⟩
  ·rw [h3] at hne; exact absurd rfl hne
  ·refine ⟨_, ha, ?_⟩
   have := h4.cells qaq ha
   rw [qaL] at this
   exact this
 have e5 := qkg (A := zs 4 ++ be number 4 ++ [kind] ++ be (IntKind.wrap .u32 s.len) 2 ++ [0]) (X := zs l.length) (Y := l) (Z := zs (500 - l.length)) (qaC _)
 rw [e6] at e5
 have e7 : (0 : Nat) + Int.toNat 12 * 1 = 12 := rfl
 rw [e7, e5] at ho
 replace ho := Own.bytes (l' := [] ++ zs 4 ++ restV number kind l) ho (by simp only [restV, hlen, List.append_assoc, List.nil_append])
 refine qn1 ⟨by omega, by simp⟩ ?_
 refine qoi (by omega) (by simp) (by simp) (by simp) ?_
 have hd := ho.drew
 have hr : RdB [] w5.drew ⟨some ⟨b, 0 + Int.toNat 4 * 1, none⟩, (512 : Int).toNat - Int.toNat 4, (512 : Int).toNat - Int.toNat 4⟩ (restV number kind l) := by
  have := qeY (S := []) (o := 4) (n := 508) (cap := 508) (hd.at (i := 0) rfl) (by rw [List.length_append, List.length_append, qaC, qfz hle]; simp) (Nat.le_refl _) (by simp)
  ·rw [List.nil_append, List.drop_append_of_le_length (by rw [qaC]; exact Nat.le_refl _), List.drop_of_length_le (by rw [qaC]; exact Nat.le_refl _), List.nil_append, List.take_of_length_le (by rw [qfz hle]; exact Nat.le_refl _)] at this
   exact this
 have hv5 : Hv w5.drew := hv.frame0 hd.fr
 refine qra hr hv5 (by rw [qfz hle]; decide) ?_
 refine qod (k := 4) hd 0 rfl rfl (qaC 4) (by decide) fun w6 ho => ?_
 refine hk hle b _ w6 (ho.at (i := 0) rfl) ho.fr (by omega)
def IsB (l : List Int) : Prop := ∀ x ∈ l, 0 <= x /\ x < 256
theorem IsB.take {l : List Int} (h : IsB l) (n : Nat) : IsB (l.take n) := fun x hx => h x (List.mem_of_mem_take hx)
theorem IsB.drop {l : List Int} (h : IsB l) (n : Nat) : IsB (l.drop n) := fun x hx => h x (List.mem_of_mem_drop hx)
theorem qqV {l : List Int} (h : IsB l) : ((Lib.countByte (Lib.bytesOf l) (0 : Int).toNat.toUInt8 : Nat) : Int) = l.length ↔ ∀ x ∈ l, x = 0 := by
 have key : ∀ l : List Int, IsB l -> ((Lib.bytesOf l).count (0 : UInt8) <= l.length /\ ((Lib.bytesOf l).count (0 : UInt8) = l.length ↔ ∀ x ∈ l, x = 0)) := by
  intro l
  induction l with
  | nil => intro _; simp [Lib.bytesOf]
  | cons a l ih =>
   intro hl
   obtain ⟨i1, i2⟩ := ih (fun x hx => hl x (List.mem_cons_of_mem _ hx))
   have ha := hl a (by simp)
   have e : Lib.bytesOf (a :: l) = UInt8.ofNat a.toNat :: Lib.bytesOf l := rfl
   rw [e, List.count_cons]
   have hz : (UInt8.ofNat a.toNat == 0) = decide (a = 0) := by
    by_cases h0 : a = 0
    ·subst h0; rfl
    ·rw [decide_eq_false h0, beq_eq_false_iff_ne]
     intro hq
     have := congrArg UInt8.toNat hq
     simp at this
     omega
   rw [hz]
   by_cases h0 : a = 0
   ·subst h0
    simp only [decide_true, if_true, List.length_cons, List.mem_cons, forall_eq_or_imp, true_and]
    exact ⟨by omega, by rw [<- i2]; omega⟩
   ·simp only [h0, decide_false, Bool.false_eq_true, if_false, List.length_cons, List.mem_cons, forall_eq_or_imp, false_and, iff_false]
    omega
 have := (key l h).2
 show (((Lib.bytesOf l).count _ : Nat) : Int) = _ ↔ _
 rw [<- this]
 exact Int.ofNat_inj
theorem qmK {S : List Nat} {w : World} {s : Sl} {l : List Int} {b2 cap2 : Nat} {K : Int -> World -> Prop} (h : RdB S w s l) (hB : IsB l) (hc2 : w.cell? ⟨b2, 0, none⟩ = some (.int .u8 0))
  (hk : ∀ c : Int, (c = l.length ↔ ∀ x ∈ l, x = 0) -> K c w) :
  call Tryz.prog 120 [.slice s.a s.len s.cap, .slice (some ⟨b2, 0, none⟩) 1 cap2] [.one (.int .i64)] w K := by
 refine qmy (s := s) (sep := ⟨some ⟨b2, 0, none⟩, 1, cap2⟩) ?_
 unfold qgO
 have hlen := h.1
 refine cond_false (by rfl) ?_
 refine cond_true (by rfl) ?_
 refine qfg (by omega) (by simp) ?_
 refine qnJ (c := .int .u8) 0 hc2 ?_
 have hcount : (Extern.BytealgCount.count #[.slice s.a s.len s.cap, .int .u8 0]).run Tryz.prog w = .ok (.int .i64 (Lib.countByte (Lib.bytesOf l) (0 : Int).toNat.toUInt8)) w := by
  cases ha : s.a with
  | none =>
   have hl0 : l = [] := by
    rcases h.2.2 with h3 | ⟨b, o, cs, T, fr, ha', _⟩
    ·exact h3
    ·rw [ha] at ha'; cases ha'
   subst hl0
   exact Lib.run_countNil w _ _ _
  | some a =>
   refine Lib.run_countAt w a s.len s.cap l hlen.symm (fun i hi => ?_) 0
   have := h.cells qaq ha i (.int .u8 (l.getD i 0)) ?_
   ·exact this
   ·rw [qaL, List.getElem?_map, List.getD_eq_getElem?_getD, List.getElem?_eq_getElem (by omega)]; rfl
 refine qtm (e := Extern.BytealgCount.count) Tryz.func142 (by kernel_rfl) (by kernel_rfl) (by kernel_rfl) (by kernel_rfl) (((Lib.countByte (Lib.bytesOf l) (0 : Int).toNat.toUInt8 : Nat) : Int)) w hcount ?_
 exact hk _ (qqV hB)
def openV (number : Int) (b : List Int) : Int × List Int × Int :=
 if b.length ≠ 512 then (0, [], 1)
 else if getV (b.take 4) ≠ sumV (b.drop 4) then (0, [], 8)
 else if getV ((b.take 8).drop 4) ≠ number then (0, [], 4)
 else if getV ((b.take 11).drop 9) > 500 \/ b.getD 11 0 ≠ 0 then (0, [], 2)
 else if ∃ x ∈ b.drop (12 + (getV ((b.take 11).drop 9)).toNat), x ≠ 0 then (0, [], 2)
 else (b.getD 8 0, (b.take (12 + (getV ((b.take 11).drop 9)).toNat)).drop 12, 0)
theorem qaI (x : Int) (h : 0 <= x /\ x < 4294967296) : IntKind.wrap .u32 x = x := by
 unfold IntKind.wrap
 have : (IntKind.u32.signed) = false := rfl
 simp only [this, Bool.false_and, Bool.false_eq_true, if_false]
 exact Int.emod_eq_of_lt h.1 h.2
theorem qa3 (x : Int) : 0 <= IntKind.wrap .u32 x /\ IntKind.wrap .u32 x < 4294967296 := by
 unfold IntKind.wrap
 have : (IntKind.u32.signed) = false := rfl
 simp only [this, Bool.false_and, Bool.false_eq_true, if_false]
 exact ⟨Int.emod_nonneg _ (by decide), Int.emod_lt_of_pos _ (by decide)⟩
theorem qe4 (op : BinOp) (x y : Int) : 0 <= bits op .u32 x y /\ bits op .u32 x y < 4294967296 := qa3 _
theorem qp4 (l : List Int) : 0 <= getV l /\ getV l < 4294967296 := by
 unfold getV
 have : ∀ (l : List Int) (a : Int), 0 <= a /\ a < 4294967296 -> 0 <= l.foldl (fun r x => bits .or .u32 (IntKind.wrap .u32 (r * 2 ^ 8)) (IntKind.wrap .u32 x)) a /\ l.foldl (fun r x => bits .or .u32 (IntKind.wrap .u32 (r * 2 ^ 8)) (IntKind.wrap .u32 x)) a < 4294967296 := by
  intro l
  induction l with
  | nil => intro a h; exact h
  | cons x l ih => intro a _; exact ih _ (qe4 _ _ _)
 exact this l 0 (by decide)
theorem qmE {S : List Nat} {w : World} {s : Sl} {l : List Int} {number : Int} {K : Int × Sl × Int -> World -> Prop} (h : RdB S w s l) (hv : Hv w) (hB : IsB l) (hl : l.length <= 100000)
  (hk : ∀ s' B w', BufB w' s' (openV number l).2.1 B -> Fr [] w w' -> (∀ b ∈ B, w.heap.size <= b) -> K ((openV number l).1, s', (openV number l).2.2) w') :
  call Tryz.prog 85 [.int .u32 number, .slice s.a s.len s.cap] [.one (.int .u8), .one .slice, .one (.int .i64)] w K := by
 refine qoy (b := s) ?_
 unfold qiz
 have hlen := h.1
 have bad : ∀ {e : Int} {w' : World}, openV number l = (0, [], e) -> Fr [] w w' -> K (0, ⟨none, 0, 0⟩, e) w' := by
  intro e w' he hf
  have := hk ⟨none, 0, 0⟩ [] w' (by rw [he]; exact .nil _ _ _) hf (by simp)
  rw [he] at this
  exact this
 refine qaa (fun hc => ?_) (fun hc => ?_)
 ·refine bad ?_ (.refl _ _)
  have : l.length ≠ 512 := by simp at hc; omega
  simp [openV, this]
 have h512 : l.length = 512 := by simp at hc; omega
 refine Rds.part h 0 4 rfl rfl (by omega) (by omega) fun s1 l1 r1 _ => ?_
 refine Rds.part h 4 512 rfl (by rw [hlen, h512]; rfl) (by omega) (by omega) fun s2 l2 r2 _ => ?_
 rw [List.take_of_length_le (by omega)] at r2
 rw [List.drop_zero] at r1
 have fd : Fr [] w w.drew := (Fr.refl _ _).drew
 have hvd : Hv w.drew := hv.frame0 fd
 refine qoq (w := w.drew) r1 (by rw [List.length_take]; omega) ?_
 refine qra (w := w.drew) r2 hvd (by rw [List.length_drop]; omega) ?_
 have h0 : ¬ l.length ≠ 512 := by omega
 refine qaa (fun hc => ?_) (fun hc => ?_)
 ·refine bad ?_ fd
  have : getV (l.take 4) ≠ sumV (l.drop 4) := by simpa using hc
  rw [openV, if_neg h0, if_pos this]
 have h1 : ¬ getV (l.take 4) ≠ sumV (l.drop 4) := by simpa using hc
 have hd : RdB S w.drew s l := h
 refine Rds.part hd 4 8 rfl rfl (by omega) (by omega) fun s3 l3 r3 _ => ?_
 refine qoq r3 (by rw [List.length_drop, List.length_take]; omega) ?_
 refine qaa (fun hc => ?_) (fun hc => ?_)
 ·refine bad ?_ fd
  have : getV ((l.take 8).drop 4) ≠ number := by simpa using hc
  rw [openV, if_neg h0, if_neg h1, if_pos this]
 have h2 : ¬ getV ((l.take 8).drop 4) ≠ number := by simpa using hc
 refine Rds.part hd 9 11 rfl rfl (by omega) (by omega) fun s4 l4 r4 _ => ?_
 refine qoq r4 (by rw [List.length_drop, List.length_take]; omega) ?_
 have hn := qp4 ((l.take 11).drop 9)
 have g11 : l[11]? = some (l.getD 11 0) := by rw [List.getD_eq_getElem?_getD, List.getElem?_eq_getElem (by omega)]; rfl
 have g8 : l[8]? = some (l.getD 8 0) := by rw [List.getD_eq_getElem?_getD, List.getElem?_eq_getElem (by omega)]; rfl
 refine qae (fun b w' => b = decide (getV ((l.take 11).drop 9) > 500 \/ l.getD 11 0 ≠ 0) /\ w' = w.drew) ?_ ?_
 ·refine qaa (fun hc => ?_) (fun hc => ?_)
  ·exact ⟨by rw [decide_eq_true (Or.inl (of_decide_eq_true hc))], rfl⟩
  ·refine RdB.at hd 11 rfl g11 ⟨?_, rfl⟩
   have := of_decide_eq_false hc
   generalize l.getD 11 0 = z
   by_cases hz : z = 0 <;> simp [this, hz]
 rintro b w1 ⟨rfl, rfl⟩
 refine qaa (fun hc => ?_) (fun hc => ?_)
 ·refine bad ?_ fd
  rw [openV, if_neg h0, if_neg h1, if_neg h2, if_pos (of_decide_eq_true hc)]
 have h3 := of_decide_eq_false hc
 have hn500 : getV ((l.take 11).drop 9) <= 500 := by
  rcases Int.lt_or_le 500 (getV ((l.take 11).drop 9)) with h | h
  ·exact absurd (Or.inl h) h3
  ·exact h
 have ov : openV number l = if ∃ x ∈ l.drop (12 + (getV ((l.take 11).drop 9)).toNat), x ≠ 0 then (0, [], 2) else (l.getD 8 0, (l.take (12 + (getV ((l.take 11).drop 9)).toNat)).drop 12, 0) := by
  rw [openV, if_neg h0, if_neg h1, if_neg h2, if_neg h3]
 generalize getV ((l.take 11).drop 9) = n at hn hn500 ov
 obtain ⟨m, rfl⟩ : ∃ m : Nat, n = m := ⟨n.toNat, by omega⟩
 rw [qaI _ (by omega)]
 rw [Int.toNat_natCast] at ov
 refine Rds.part hd (12 + m) 512 (by simp) (by rw [hlen, h512]; rfl) (by omega) (by omega) fun s5 l5 r5 _ => ?_
 rw [List.take_of_length_le (by omega)] at r5
 have ho := Own.start [] w.drew
 refine Own.new ho fun zb w2 ez sz ho => ?_
 have r5' : RdB S w2 s5 (l.drop (12 + m)) := r5.frame0 ho.fr
 refine qmK r5' (hB.drop _) (ho.cell (off := 0) 0 rfl rfl) fun c hcz => ?_
 have fd2 : Fr [] w w2 := fd.trans ho.fr
 have hl5 := r5.1
 refine qaa (fun hc => ?_) (fun hc => ?_)
 ·refine bad ?_ fd2
  have hne : ¬ ∀ x ∈ l.drop (12 + m), x = 0 := by
   rw [<- hcz]
   intro e
   rw [e, hl5] at hc
   simp at hc
  rw [ov, if_pos]
  exact Classical.byContradiction fun hno => hne fun x hx => Classical.byContradiction fun hx0 => hno ⟨x, hx, hx0⟩
 ·have hall : ∀ x ∈ l.drop (12 + m), x = 0 := by
   rw [<- hcz]
   rw [hl5] at hc
   simpa using hc
  rw [if_neg (by rintro ⟨x, hx, h0⟩; exact h0 (hall x hx))] at ov
  have hd2 : RdB S w2.drew s l := (h.frame0 fd2).drew
  obtain ⟨_, b8, o8, ha8, _, cs8, T8, fr8, hb8, hc8⟩ := Rds.at hd2 8 g8
  have hcell : cs8[o8 + 8]? = some (.int .u8 (l.getD 8 0)) := by
   have := congrArg (·[0]?) hc8
   simpa using this
  refine qbj ha8 ⟨by omega, by omega⟩ ?_
  have ecell : ∀ {w' : World}, w'.heap[b8]? = some (.cells cs8 T8 fr8) -> w'.cell? ⟨b8, o8 + Int.toNat 8 * 1, none⟩ = some (.int .u8 (l.getD 8 0)) := fun hb => by
   rw [qaj hb]; exact hcell
  refine qnJ (c := .int .u8) (l.getD 8 0) (ecell hb8) ?_
  refine Rds.part hd2 12 (12 + m) rfl (by simp) (by omega) (by omega) fun s6 l6 r6 _ => ?_
  have lm : ((l.take (12 + m)).drop 12).length = m := by rw [List.length_drop, List.length_take]; omega
  refine qmP r6 (by rw [lm]; omega) fun s7 B w3 hb7 f7 n7 _ _ => ?_
  refine qar (ecell (by rw [f7.block b8 (qac hb8) (by simp)]; exact hb8)) ?_
  have e1 : (w2.drew).heap.size = w2.heap.size := rfl
  have := hk s7 B w3 (by rw [ov]; exact hb7) (fd2.drew.trans f7) (fun b hb => by have := n7 b hb; have := fd2.size; omega)
  rw [ov] at this
  exact this
end Go.Proofs.YtmbcedengdoamaaGreatDoor
end
section
set_option linter.unusedVariables false
set_option linter.unusedSimpArgs false
namespace Go.Proofs.YtmbcedengdoamaaGreatDoor
open Go Go.Pt
theorem wu8 (x : Int) : IntKind.wrap .u8 x = x % 256 := by
 unfold IntKind.wrap
 have : (IntKind.u8.signed) = false := rfl
 simp only [this, Bool.false_and, Bool.false_eq_true, if_false]
 rfl
theorem qtG {r x : Int} (hr : 0 <= r /\ r < 16777216) (hx : 0 <= x /\ x < 256) : bits .or .u32 (IntKind.wrap .u32 (r * 2 ^ 8)) (IntKind.wrap .u32 x) = r * 256 + x := by
 rw [qaI x (by omega), qaI (r * 2 ^ 8) (by omega)]
 obtain ⟨a, rfl⟩ : ∃ a : Nat, r = a := ⟨r.toNat, by omega⟩
 obtain ⟨b, rfl⟩ : ∃ b : Nat, x = b := ⟨x.toNat, by omega⟩
 have e1 : ((a : Int) * 2 ^ 8) = ((2 ^ 8 * a : Nat) : Int) := by omega
 rw [e1]
 show IntKind.wrap .u32 ((BitVec.ofInt 32 ((2 ^ 8 * a : Nat) : Int) ||| BitVec.ofInt 32 (b : Int)).toNat : Nat) = _
 rw [BitVec.toNat_or, BitVec.ofInt_natCast, BitVec.ofInt_natCast, BitVec.toNat_ofNat, BitVec.toNat_ofNat, Nat.mod_eq_of_lt (show 2 ^ 8 * a < 2 ^ 32 by omega), Nat.mod_eq_of_lt (show b < 2 ^ 32 by omega), <- Nat.two_pow_add_eq_or_of_lt (show b < 2 ^ 8 by omega)]
 rw [qaI _ (by omega)]
 omega
def beV (l : List Int) : Int := l.foldl (fun r x => r * 256 + x) 0
theorem qfa : ∀ {l : List Int}, IsB l -> l.length <= 4 -> getV l = beV l := by
 have key : ∀ (l : List Int) (r : Int) (k : Nat), IsB l -> l.length <= k -> k <= 4 -> 0 <= r -> r < 256 ^ (4 - k) ->
   l.foldl (fun r x => bits .or .u32 (IntKind.wrap .u32 (r * 2 ^ 8)) (IntKind.wrap .u32 x)) r = l.foldl (fun r x => r * 256 + x) r := by
  intro l
  induction l with
  | nil => intros; rfl
  | cons x l ih =>
   intro r k hB hl hk h0 h1
   have hx := hB x (by simp)
   simp only [List.length_cons] at hl
   have hr : r < 16777216 := by
    have : (256 : Int) ^ (4 - k) <= 256 ^ 3 := by
     have : (4 - k) <= 3 := by omega
     match k, hk, hl with
     | 1, _, _ => decide
     | 2, _, _ => decide
     | 3, _, _ => decide
     | 4, _, _ => decide
    have e : (256 : Int) ^ 3 = 16777216 := by decide
    omega
   rw [List.foldl_cons, List.foldl_cons, qtG ⟨h0, hr⟩ hx]
   match k, hk, hl, h1 with
   | k + 1, hk, hl, h1 =>
    refine ih _ k (fun y hy => hB y (List.mem_cons_of_mem _ hy)) (by omega) (by omega) (by omega) ?_
    have e : 4 - k = (4 - (k + 1)) + 1 := by omega
    rw [e, Int.pow_succ]
    omega
 intro l hB hl
 exact key l 0 4 hB hl (by decide) (by decide) (by decide)
theorem qd3 {n : Int} (h : 0 <= n) (j : Nat) (hj : j <= 3) : byteAt n j = n / 256 ^ j % 256 := by
 unfold byteAt
 rw [wu8, Int.fdiv_eq_ediv_of_nonneg _ (by exact Int.pow_nonneg (by decide))]
 match j, hj with
 | 0, _ => rfl
 | 1, _ => rfl
 | 2, _ => rfl
 | 3, _ => rfl
theorem be4 {n : Int} (h : 0 <= n) : be n 4 = [n / 16777216 % 256, n / 65536 % 256, n / 256 % 256, n % 256] := by
 have e : be n 4 = [byteAt n 3, byteAt n 2, byteAt n 1, byteAt n 0] := rfl
 rw [e, qd3 h 3 (by decide), qd3 h 2 (by decide), qd3 h 1 (by decide), qd3 h 0 (by decide)]
 simp
theorem be2 {n : Int} (h : 0 <= n) : be n 2 = [n / 256 % 256, n % 256] := by
 have e : be n 2 = [byteAt n 1, byteAt n 0] := rfl
 rw [e, qd3 h 1 (by decide), qd3 h 0 (by decide)]
 simp
theorem qb5 (n : Int) (k : Nat) : IsB (be n k) := by
 intro x hx
 obtain ⟨i, _, rfl⟩ := List.mem_map.1 hx
 unfold byteAt
 rw [wu8]
 omega
theorem qlg {n : Int} (h : 0 <= n /\ n < 4294967296) : getV (be n 4) = n := by
 rw [qfa (qb5 _ _) (by rw [qah]; exact Nat.le_refl _), be4 h.1]
 show (((0 * 256 + _) * 256 + _) * 256 + _) * 256 + _ = n
 omega
theorem qsg {n : Int} (h : 0 <= n /\ n < 65536) : getV (be n 2) = n := by
 rw [qfa (qb5 _ _) (by rw [qah]; decide), be2 h.1]
 show (0 * 256 + _) * 256 + _ = n
 omega
theorem qgo (l : List Int) : 0 <= sumV l /\ sumV l < 4294967296 := by
 unfold sumV moreV
 exact qe4 _ _ _
theorem IsB.append {a b : List Int} (h : IsB a) (k : IsB b) : IsB (a ++ b) := fun x hx => by
 rcases List.mem_append.1 hx with h' | h'
 ·exact h x h'
 ·exact k x h'
theorem IsB.zs (n : Nat) : IsB (zs n) := fun x hx => by
 have := List.eq_of_mem_replicate hx
 omega
theorem IsB.one {x : Int} (h : 0 <= x /\ x < 256) : IsB [x] := fun y hy => by simp at hy; subst hy; exact h
theorem qmT {number kind : Int} {body : List Int} (hk : 0 <= kind /\ kind < 256) (hb : IsB body) : IsB (restV number kind body) :=
 (((((qb5 _ _).append (.one hk)).append (qb5 _ _)).append (.one (by decide))).append hb).append (.zs _)
theorem qcZ {number kind : Int} {body : List Int} (hk : 0 <= kind /\ kind < 256) (hb : IsB body) : IsB (sealV number kind body) := (qb5 _ _).append (qmT hk hb)
theorem qkV {number kind : Int} {body : List Int} (hn : 0 <= number /\ number < 4294967296) (hl : body.length <= 500) : openV number (sealV number kind body) = (kind, body, 0) := by
 have hlen : IntKind.wrap .u32 (body.length : Int) = (body.length : Int) := qaI _ (by omega)
 have e0 : sealV number kind body = be (sumV (restV number kind body)) 4 ++ (be number 4 ++ ([kind] ++ (be body.length 2 ++ ([0] ++ (body ++ zs (500 - body.length)))))) := by
  rw [sealV]
  conv => lhs; rhs; rw [restV]
  rw [hlen]
  simp only [List.append_assoc]
 have l4 := qah (sumV (restV number kind body)) 4
 have e1 : (sealV number kind body).take 4 = be (sumV (restV number kind body)) 4 := by rw [sealV, List.take_append_of_le_length (by rw [qah]; exact Nat.le_refl _), List.take_of_length_le (by rw [qah]; exact Nat.le_refl _)]
 have e2 : (sealV number kind body).drop 4 = restV number kind body := by rw [sealV, List.drop_append_of_le_length (by rw [qah]; exact Nat.le_refl _), List.drop_of_length_le (by rw [qah]; exact Nat.le_refl _), List.nil_append]
 have b4 : ∀ n, ∃ a b c d, be n 4 = [a, b, c, d] := fun n => ⟨_, _, _, _, rfl⟩
 have b2 : ∀ n, ∃ a b, be n 2 = [a, b] := fun n => ⟨_, _, rfl⟩
 obtain ⟨a0, a1, a2, a3, ha⟩ := b4 (sumV (restV number kind body))
 obtain ⟨n0, n1, n2, n3, hnn⟩ := b4 number
 obtain ⟨l0, l1, hll⟩ := b2 body.length
 have e3 : sealV number kind body = a0 :: a1 :: a2 :: a3 :: n0 :: n1 :: n2 :: n3 :: kind :: l0 :: l1 :: 0 :: (body ++ zs (500 - body.length)) := by
  rw [e0, ha, hnn, hll]; rfl
 have g1 : getV ((sealV number kind body).take 4) = sumV ((sealV number kind body).drop 4) := by rw [e1, e2, qlg (qgo _)]
 have g2 : getV (((sealV number kind body).take 8).drop 4) = number := by
  have : ((sealV number kind body).take 8).drop 4 = be number 4 := by rw [e3, hnn]; rfl
  rw [this, qlg hn]
 have g3 : getV (((sealV number kind body).take 11).drop 9) = body.length := by
  have : ((sealV number kind body).take 11).drop 9 = be body.length 2 := by rw [e3, hll]; rfl
  rw [this, qsg (by omega)]
 have g4 : (sealV number kind body).getD 11 0 = 0 := by rw [e3]; rfl
 have g5 : (sealV number kind body).getD 8 0 = kind := by rw [e3]; rfl
 have g6 : (sealV number kind body).drop (12 + body.length) = zs (500 - body.length) := by
  rw [e3, Nat.add_comm]
  show (body ++ zs (500 - body.length)).drop body.length = _
  rw [List.drop_append_of_le_length (Nat.le_refl _), List.drop_length, List.nil_append]
 have g7 : ((sealV number kind body).take (12 + body.length)).drop 12 = body := by
  rw [e3, Nat.add_comm]
  show (body ++ zs (500 - body.length)).take body.length = _
  rw [List.take_append_of_le_length (Nat.le_refl _), List.take_length]
 rw [openV, if_neg (by rw [qdm hl]; simp), if_neg (by rw [g1]; simp), if_neg (by rw [g2]; simp), g3, g4, if_neg (by simp; omega), Int.toNat_natCast, g6, if_neg, g5, g7]
 rintro ⟨x, hx, h0⟩
 exact h0 (List.eq_of_mem_replicate hx)
end Go.Proofs.YtmbcedengdoamaaGreatDoor
end
section
set_option linter.unusedVariables false
namespace Go.Pt
open Go
variable {S : List Nat} {w0 w : World} {L : List (Nat × Obj)} {P : Program}
theorem Own.rng {v : Value} {pts : List Ty1} {body : ElR pts -> (World -> (World -> Prop) -> Prop) -> (World -> Prop) -> (Nat -> World -> Prop) -> World -> Prop} {done : Nat -> World -> Prop} {jumps : List (Nat -> World -> Prop)} {f : FuncId} {lb : List Value} (h : Own S w0 w L) (hv : v = .func (.func f) #[] lb.toArray) (hb : bodyless P f = false)
  (k : ∀ (D l : Nat) (R B : Obj) (J E : Nat -> Obj) (E0 : Obj) (w1 : World), l = w.heap.size + 1 -> D = w.heap.size -> Fr [] w w1 -> Own S w0 w1 ((l, R) :: (D, .deferred (some [])) :: L) -> yieldsBy P pts body l R B J ->
   call P f (.func (.yield l) #[] #[] :: lb) [] w1 (fun _ W => (W.heap[l]? = some R /\ done D (Pt.upd W l E0)) \/ ∃ i k, jumps[i]? = some k /\ W.heap[l]? = some (J i) /\ k D (Pt.upd W l (E i)))) : Pt.rng P v pts body done jumps w := by
 refine ⟨f, lb, hv, hb, fun R B J E E0 hy => ?_⟩
 have h1 := h.alloc (.deferred (some []))
 have h2 := h1.alloc R
 rw [World.size_alloc] at h2
 exact k _ _ R B J E E0 _ rfl rfl (((Fr.refl [] w).alloc _).alloc _) h2 hy
theorem Own.undefer {D : Nat} {K : World -> Prop} (h : Own S w0 w L) (i : Nat) (hi : L[i]? = some (D, .deferred (some []))) (k : ∀ w', Own S w0 w' (L.set i (D, .deferred none)) -> K w') : Pt.undefer D w K :=
 ⟨h.at hi, k _ (Own.upd h i hi)⟩
theorem qqE {v : Value} {f : FuncId} {lb args : List Value} {ts : List Ty1} {K : ElR ts -> World -> Prop} (hv : v = .func (.func f) #[] lb.toArray) (hb : bodyless P f = false) (k : call P f (args ++ lb) ts w K) : callV P v args ts w K := by
 subst hv
 refine .inl ⟨f, args ++ lb, ?_, k⟩
 simp [Deferred.ofValue, invoke, qdn hb]
theorem qaw {n b off : Nat} {cs : Array Value} {T : TypeId} {fr : Nat × Nat} {K : List Value -> Prop} (hb : w.heap[b]? = some (.cells cs T fr)) (x : List Value) (h1 : x.length = n) (hx : (cs.toList.drop off).take n = x) (k : K x) : Pt.ldV n ⟨b, off, none⟩ w K :=
 ⟨x, ⟨h1, qaQ hb _ off 0 (by rw [h1]; exact hx)⟩, k⟩
theorem qsz {cs : List Cell} {vs : List Value} {off : Nat} {K : HL cs -> Prop} (x : HL cs) (h : vs.extract off (off + cs.length) = HL.mk cs x) (k : K x) : Pt.fldA cs vs off K := ⟨x, h, k⟩
theorem qtx {a : Addr} {len cap n : Nat} {K : Addr -> Prop} (h : n <= len) (k : K a) : s2a ⟨some a, len, cap⟩ n K := ⟨a, rfl, h, k⟩
theorem Own.newFill {t : TypeId} {vs : List Value} {n : Nat} {K : Nat -> World -> Prop} (h : Own S w0 w L) (hz : ((P.info? t).bind (·.zero)).map (fun z => z.cells.size) = some n) (hn : vs.length = n) (h1 : (vs.all Value.oneCell') = true)
  (k : ∀ b w', b = w.heap.size -> Own S w0 w' ((b, .cells vs.toArray t (0, 0)) :: L) -> K b w') : Pt.newZ P t w fun r w1 => chk (vs.length = n) (Pt.st ⟨r, 0, none⟩ vs w1 fun w2 => K r w2) := by
 obtain ⟨z, hz, hzs⟩ := Option.map_eq_some_iff.1 hz
 refine ⟨z, hz, hn, ?_⟩
 have h2 := h.alloc (.cells z.cells t)
 refine Own.st h2 0 rfl vs.toArray (qa5 (by omega)) h1 (Nat.ble_eq_true_of_le (by omega)) fun w' h3 _ => ?_
 exact k _ w' rfl h3
theorem Own.newZ {t : TypeId} {zs : List Value} {K : Nat -> World -> Prop} (h : Own S w0 w L) (hz : ((P.info? t).bind (·.zero)).map (fun z => z.cells.toList) = some zs)
  (k : ∀ b w', b = w.heap.size -> Own S w0 w' ((b, .cells zs.toArray t (0, 0)) :: L) -> K b w') : Pt.newZ P t w K := by
 obtain ⟨z, hz, hzs⟩ := Option.map_eq_some_iff.1 hz
 refine ⟨z, hz, ?_⟩
 have h2 := h.alloc (.cells z.cells t)
 have e : zs.toArray = z.cells := by rw [<- hzs]
 rw [<- e] at h2 ⊢
 exact k _ _ rfl h2
theorem qo4 {zero : List Value} {k : Nat} (hk : zero.length = k) (n : Nat) : (mkCells (if n * k = 0 then [] else zero) (n * k)).toList = (List.replicate n zero).flatten := by
 by_cases h0 : n * k = 0
 ·rw [if_pos h0, h0]
  rcases Nat.mul_eq_zero.1 h0 with h | h
  ·subst h; simp [mkCells]
  ·have : zero = [] := List.eq_nil_of_length_eq_zero (by omega)
   subst this
   simp [mkCells]
 ·rw [if_neg h0]
  have hpos : 0 < k := Nat.pos_of_ne_zero fun e => h0 (by rw [e]; simp)
  apply List.ext_getElem?
  intro i
  have hlen : ∀ n, ((List.replicate n zero).flatten).length = n * k := by intro n; simp [hk]
  have key : ∀ n i, i < n * k -> ((List.replicate n zero).flatten)[i]? = zero[i % k]? := by
   intro n
   induction n with
   | zero => intro i hi; simp at hi
   | succ n ih =>
    intro i hi
    rw [Nat.succ_mul] at hi
    rw [List.replicate_succ, List.flatten_cons]
    by_cases hik : i < k
    ·rw [List.getElem?_append_left (by omega), Nat.mod_eq_of_lt hik]
    ·rw [List.getElem?_append_right (by omega), hk, ih (i - k) (by omega)]
     congr 1
     exact (Nat.mod_eq_sub_mod (by omega)).symm
  have hl2 := hlen n
  have hsz : (mkCells zero (n * k)).toList.length = n * k := by simp [mkCells]
  by_cases hi : i < n * k
  ·rw [key n i hi]
   have hlt : i % k < zero.length := by rw [hk]; exact Nat.mod_lt _ hpos
   have h1 : (mkCells zero (n * k)).toList[i]? = some (zero.toArray[i % zero.toArray.size]!) := by
    simp [mkCells, hi]
   rw [h1, List.getElem?_eq_getElem hlt]
   simp [hk, List.getElem?_eq_getElem hlt]
  ·rw [List.getElem?_eq_none (by rw [hsz]; omega), List.getElem?_eq_none (by rw [hl2]; omega)]
theorem Own.mkN {el : TypeId} {zero : List Value} {size bytes : Nat} {l c : Int} {K : Sl -> World -> Prop} (h : Own S w0 w L) (hk : zero.length = size) (h0 : 0 <= l) (h1 : l <= c) (h2 : (bytes : Int) * c <= 2 ^ 48) (h3 : c <= 2 ^ 48)
  (k : ∀ b w', b = w.heap.size -> Own S w0 w' ((b, .cells ((List.replicate c.toNat zero).flatten).toArray el (0, 0)) :: L) -> K ⟨some ⟨b, 0, none⟩, l.toNat, c.toNat⟩ w') : mkS el zero size bytes l c w K := by
 refine ⟨⟨h0, h1, h2, h3⟩, ?_⟩
 have e := qo4 hk c.toNat
 have e' : mkCells (if c.toNat * size = 0 then [] else zero) (c.toNat * size) = ((List.replicate c.toNat zero).flatten).toArray := by
  apply Array.ext'
  rw [e]
 rw [e']
 exact k _ _ rfl (h.alloc _)
theorem Own.new' {o : Obj} {K : Nat -> World -> Prop} (h : Own S w0 w L) (k : ∀ b w', b = w.heap.size -> Fr [] w w' -> Own S w0 w' ((b, o) :: L) -> K b w') : Pt.new o w K :=
 k _ _ rfl ((Fr.refl [] w).alloc o) (h.alloc o)
theorem Own.st' {b off : Nat} {cs : Array Value} {T : TypeId} {vs : List Value} {K : World -> Prop} (h : Own S w0 w L) (i : Nat) (hi : L[i]? = some (b, .cells cs T (0, 0))) (cs' : Array Value) (hcs : splice cs off vs = cs') (h1 : (vs.all Value.oneCell') = true) (hl : off + vs.length <= cs.size)
  (k : ∀ w', Own S w0 w' (L.set i (b, .cells cs' T (0, 0))) -> Fr [b] w w' -> K w') : Pt.st ⟨b, off, none⟩ vs w K :=
 qic (w := w) vs off 0 cs w K (h.at hi) h1 hl (k _ (by rw [Nat.add_zero, hcs]; exact Own.upd h i hi) (qb4 (qac (h.at hi)) _))
theorem qcU {b off : Nat} {cs : Array Value} {T : TypeId} {vs : List Value} {K : World -> Prop} (hb : w.heap[b]? = some (.cells cs T (0, 0))) (cs' : Array Value) (hcs : splice cs off vs = cs') (h1 : (vs.all Value.oneCell') = true) (hl : off + vs.length <= cs.size)
  (k : ∀ w', w'.heap[b]? = some (.cells cs' T (0, 0)) -> Fr [b] w w' -> K w') : Pt.st ⟨b, off, none⟩ vs w K :=
 qic (w := w) vs off 0 cs w K hb h1 hl (k _ (by rw [Nat.add_zero, hcs, qaD _ _ _ _ (qac hb), if_pos rfl]) (qb4 (qac hb) _))
theorem Own.rebase (h : Own S w0 w L) : Own (L.map (·.1)) w w L := ⟨h.blk, h.nodup, .refl _ _, fun p hp => .inl (List.mem_map_of_mem hp)⟩
theorem Own.rebaseS (h : Own S w0 w L) (T : List Nat) : Own (L.map (·.1) ++ T) w w L := ⟨h.blk, h.nodup, .refl _ _, fun p hp => .inl (List.mem_append_left _ (List.mem_map_of_mem hp))⟩
theorem Own.backS {w' : World} {T : List Nat} (h : Own S w0 w L) (hT : ∀ b ∈ T, b ∈ S \/ w0.heap.size <= b) (f : Fr (L.map (·.1) ++ T) w w') : Fr S w0 w' :=
 h.fr.trans' f fun b hb => by
  rcases List.mem_append.1 hb with hb | hb
  ·obtain ⟨p, hp, rfl⟩ := List.mem_map.1 hb
   exact h.own p hp
  ·exact hT b hb
theorem Own.rejoin {w' : World} {T : List Nat} {L' : List (Nat × Obj)} (h : Own S w0 w L) (hT : ∀ b ∈ T, b ∈ S \/ w0.heap.size <= b) (k : Own (L.map (·.1) ++ T) w w' L') : Own S w0 w' L' :=
 ⟨k.blk, k.nodup, h.backS hT k.fr, fun p hp => by
  rcases k.own p hp with hb | hb
  ·rcases List.mem_append.1 hb with hb | hb
   ·obtain ⟨q, hq, hqe⟩ := List.mem_map.1 hb
    rw [<- hqe]; exact h.own q hq
   ·exact hT _ hb
  ·exact .inr (Nat.le_trans h.fr.size hb)⟩
theorem Own.back {w' : World} {L' : List (Nat × Obj)} (h : Own S w0 w L) (f : Fr (L.map (·.1)) w w') : Fr S w0 w' :=
 h.fr.trans' f fun b hb => by
  obtain ⟨p, hp, rfl⟩ := List.mem_map.1 hb
  exact h.own p hp
def fieldsOf (P : Program) (t : TypeId) : Array Field := match P.underlying t with | some (.struct fs) => fs | _ => #[]
theorem qqf {t : TypeId} {z a b : Value} {o1 s0 s1 : Nat} (hz : (P.info? t).bind (·.zero) = some z) (hu : P.underlying t = some (.struct (fieldsOf P t))) (hpl : ∀ w, ((fieldsOf P t).mapM fun f => do pure (f.offset, <- sizeOf f.type) : Sem (Array (Nat × Nat))).run P w = .ok #[(0, s0), (o1, s1)] w)
  (ha : a.cells.size = s0) (hb : b.cells.size = s1) (ho : o1 = s0) (hs : z.cells.size = s0 + s1) (w : World) : (Instr.build t #[(0, a), (1, b)]).run P w = .ok (.agg (a.cells.toList ++ b.cells.toList).toArray) w := by
 have h1 := qiq 0 a.cells z.cells
 have h2 := qiq o1 b.cells (splice z.cells 0 a.cells.toList)
 have key : Instr.fill ((#[(0, s0), (o1, s1)] : Array (Nat × Nat))[·]?) z.cells [(0, a), (1, b)] = some (a.cells.toList ++ b.cells.toList).toArray := by
  have e0 : (#[(0, s0), (o1, s1)] : Array (Nat × Nat))[0]? = some (0, s0) := rfl
  have e1 : (#[(0, s0), (o1, s1)] : Array (Nat × Nat))[1]? = some (o1, s1) := rfl
  simp only [Instr.fill, e0, e1]
  have c1 : ¬ (decide (a.cells.size ≠ s0) || decide (0 + a.cells.size > z.cells.size)) = true := by simp [ha]; omega
  have c2 : ¬ (decide (b.cells.size ≠ s1) || decide (o1 + b.cells.size > (splice z.cells 0 a.cells.toList).size)) = true := by simp [hb, qbQ]; omega
  rw [if_neg c1, h1, if_neg c2, h2]
  congr 1
  apply Array.ext'
  rw [qau _ _ _ (by rw [qbQ, Array.length_toList]; omega), qau _ _ _ (by rw [Array.length_toList]; omega)]
  have hal : a.cells.toList.length = o1 := by rw [Array.length_toList]; omega
  simp only [List.take_zero, List.nil_append, Nat.zero_add]
  rw [List.take_append_of_le_length (by omega), List.take_of_length_le (by omega), List.drop_of_length_le (by simp; omega), List.append_nil]
 simp only [Instr.build, Sem.run_bind, qaT hz, Result.andThen_ok, run_underlying hu, hpl, key, Sem.run_pure]
theorem Rds.getV {α : Type} {enc : α -> List Value} {k : Nat} {S : List Nat} {w : World} {s : Sl} {l : List α} (h : Rds enc k S w s l) (henc : ∀ x, (enc x).length = k) (n : Nat) {i : Int} {x : α} {K : List Value -> Prop} (hi : i = n) (hx : l[n]? = some x) (kk : K (enc x)) : idx s i k fun a => Pt.ldV k a w K := by
 subst hi
 obtain ⟨hn, b, o, ha, _, cs, T, fr, hb, hc⟩ := h.at n hx
 refine qbj ha ⟨by omega, by omega⟩ ?_
 rw [Int.toNat_natCast]
 exact qaw hb _ (henc x) hc kk
theorem qhI {α : Type} {enc : α -> List Value} {k : Nat} (henc : ∀ x, (enc x).length = k) : ∀ (l : List α) (i : Nat) (x : α), i < l.length -> splice (l.flatMap enc).toArray (i * k) (enc x) = ((l.set i x).flatMap enc).toArray := by
 intro l i x hi
 have hsplit : l = l.take i ++ l[i] :: l.drop (i + 1) := by rw [<- List.drop_eq_getElem_cons hi, List.take_append_drop]
 have hset : l.set i x = l.take i ++ x :: l.drop (i + 1) := by rw [List.set_eq_take_append_cons_drop, if_pos hi]
 have hlen : ((l.take i).flatMap enc).length = i * k := by rw [qbs henc, List.length_take, Nat.min_eq_left (by omega)]
 have e1 : l.flatMap enc = (l.take i).flatMap enc ++ enc l[i] ++ (l.drop (i + 1)).flatMap enc := by
  conv => lhs; rw [hsplit]
  rw [List.flatMap_append, List.flatMap_cons, List.append_assoc]
 have e2 : (l.set i x).flatMap enc = (l.take i).flatMap enc ++ enc x ++ (l.drop (i + 1)).flatMap enc := by
  rw [hset, List.flatMap_append, List.flatMap_cons, List.append_assoc]
 rw [e1, e2]
 generalize (l.take i).flatMap enc = A at hlen
 generalize hX : enc l[i] = X
 have hXl : X.length = (enc x).length := by rw [<- hX, henc, henc]
 generalize (l.drop (i + 1)).flatMap enc = Z
 apply Array.ext'
 rw [qau _ _ _ (by simp; omega)]
 rw [<- hlen]
 have h1 : (A ++ X ++ Z).take A.length = A := by rw [List.append_assoc, List.take_append_of_le_length (Nat.le_refl _), List.take_of_length_le (Nat.le_refl _)]
 have h2 : (A ++ X ++ Z).drop (A.length + (enc x).length) = Z := by
  rw [<- hXl, <- List.length_append, List.drop_append_of_le_length (Nat.le_refl _), List.drop_of_length_le (Nat.le_refl _), List.nil_append]
 rw [h1, h2]
end Go.Pt
end
section
set_option linter.unusedVariables false
set_option linter.unusedSimpArgs false
namespace Go.Proofs.YtmbcedengdoamaaGreatDoor
open Go Go.Pt
attribute [local irreducible] ld ldA ldV fld fldA newZ st new idx idxS idxA slc slcS slcP mkS chk nn call callV inv run runQ runU join loop held ext rng undefer s2a IntKind.wrap
def needP (n : Nat) : Nat := if n = 0 then 0 else (n - 1) / 124 + 1
theorem qoA {n : Nat} {w : World} {K : Int -> World -> Prop} (hn : n <= 1000000) (hk : K (needP n) w) : call Tryz.prog 88 [.int .i64 n] [.one (.int .i64)] w K := by
 refine qld ?_
 unfold qfc
 refine qaa (fun hc => ?_) (fun hc => ?_)
 ·have := of_decide_eq_true hc
  have h0 : n = 0 := by omega
  subst h0
  exact hk
 ·have := of_decide_eq_false hc
  have h0 : n ≠ 0 := by omega
  rw [needP, if_neg h0] at hk
  rw [wi' ((n : Int) - 1) (by omega)]
  have e : Int.tdiv ((n : Int) - 1) 124 = (((n - 1) / 124 : Nat) : Int) := by
   rw [Int.tdiv_eq_ediv_of_nonneg (by omega)]
   omega
  rw [e, wi' (((n - 1) / 124 : Nat) : Int) (by omega), wi' ((((n - 1) / 124 : Nat) : Int) + 1) (by omega)]
  exact hk
def risesB : Int -> List Int -> Bool
 | _, [] => true
 | a, x :: r => decide (a < x) && risesB x r
theorem qoe {S : List Nat} {w : World} {s : Sl} {l : List Int} {K : Bool -> World -> Prop} (h : Rd S w s l) (hl : l.length <= 1000000) (hk : K (risesB 1 l) w) :
  call Tryz.prog 132 [.slice s.a s.len s.cap] [.one .bool] w K := by
 refine qkw (l := s) ?_
 unfold qew
 have hlen := h.1
 refine qaf (fun x w' => w' = w /\ ∃ i : Nat, x.2 = i /\ i <= l.length /\ risesB x.1 (l.drop i) = risesB 1 l) (fun x _ => ((l.length : Int) - x.2).toNat) ⟨rfl, 0, rfl, by omega, by simp⟩ ?_
 rintro ⟨a, ii⟩ w' ⟨rfl, i, hi0, hi, hr⟩ X hX
 simp only at hi0 hr
 subst hi0
 refine qaa (fun hc => ?_) (fun hc => ?_)
 ·have hil : i < l.length := by have := of_decide_eq_true hc; omega
  refine Rd.at h i rfl (List.getElem?_eq_getElem hil) ?_
  rw [List.drop_eq_getElem_cons hil, risesB] at hr
  refine qaa (fun hx => ?_) (fun hx => ?_)
  ·have := of_decide_eq_true hx
   rw [show decide (a < l[i]) = false by rw [decide_eq_false_iff_not]; omega, Bool.false_and] at hr
   rw [<- hr] at hk
   exact hk
  ·have := of_decide_eq_false hx
   rw [show decide (a < l[i]) = true by rw [decide_eq_true_iff]; omega, Bool.true_and] at hr
   rw [wi' _ (by omega)]
   exact hX _ _ ⟨rfl, i + 1, by simp, by omega, hr⟩ (by dsimp only; omega)
 ·have hil : i = l.length := by have := of_decide_eq_false hc; omega
  subst hil
  rw [List.drop_length] at hr
  rw [<- hr] at hk
  exact hk
theorem qsU (n : Int) : byteAt n 0 = IntKind.wrap .u8 n := by
 unfold byteAt
 have : Int.fdiv n (2 ^ min (8 * 0) 32) = n := by
  show Int.fdiv n (2 ^ 0) = n
  simp
 rw [this]
theorem qm1 {w : World} {s : Sl} {l : List Int} {B : List Nat} {n : Int} {K : Sl -> World -> Prop} (h : BufB w s l B) (hl : l.length <= 1000000)
  (hk : ∀ s' B' w', BufB w' s' (l ++ be n 4) B' -> Fr B w w' -> (∀ b ∈ B', b ∈ B \/ w.heap.size <= b) -> K s' w') :
  new (.cells #[.int .u8 (IntKind.wrap .u8 (Int.fdiv n (2 ^ 24))), .int .u8 (IntKind.wrap .u8 (Int.fdiv n (2 ^ 16))), .int .u8 (IntKind.wrap .u8 (Int.fdiv n (2 ^ 8))), .int .u8 (IntKind.wrap .u8 n)] 5) w fun r w2 =>
   Pt.run [Ty1.one Cell.slice] ((Builtin.append_ #[22, 22] 22 #[.slice s.a s.len s.cap, .slice (some ⟨r, 0, none⟩) 4 4]).run Tryz.prog w2) fun s' w' => K s' w' := by
 obtain ⟨i5, hi, hz, hsz, hby⟩ := qnG
 refine Own.new' (Own.start [] w) fun r w1 e1 f1 ho => ?_
 have hbe : be n 4 = [byteAt n 3, byteAt n 2, byteAt n 1, byteAt n 0] := rfl
 have hs1 := f1.size
 refine Buf.appSrc (ys := be n 4) (e := 5) (h.frame0 f1) qaq (by kernel_rfl) hi hz hsz rfl (.ofSlice _ (e' := 5) (by kernel_rfl) _ 4 4 _ (by rw [qaL]; simp [qah]) (fun j u hj => ?_) (fun u hu => ?_)) (qah n 4).symm (by rw [hby]; omega) (by omega) fun s' B' w' g1 g2 g3 _ => ?_
 ·rw [Addr.add_mk, qaj (ho.at (i := 0) rfl), Nat.zero_add]
  rw [qaL, hbe, qsU] at hj
  rw [List.getElem?_toArray]
  exact hj
 ·rw [qaL] at hu
  obtain ⟨x, _, rfl⟩ := List.mem_map.1 hu
  rfl
 ·refine hk s' B' w' g1 ((f1.mono (fun i hi _ => by cases hi)).trans' g2 (fun b hb => .inl hb)) (fun b hb => ?_)
  rcases g3 b hb with h | h
  ·exact .inl h
  ·exact .inr (by omega)
theorem qpW {w : World} {s : Sl} {l : List Int} {B : List Nat} {n : Int} {K : Sl -> World -> Prop} (h : BufB w s l B) (hl : l.length <= 1000000)
  (hk : ∀ s' B' w', BufB w' s' (l ++ be n 4) B' -> Fr B w w' -> (∀ b ∈ B', b ∈ B \/ w.heap.size <= b) -> K s' w') :
  call Tryz.prog 145 [.slice s.a s.len s.cap, .int .u32 n] [.one .slice] w K := by
 refine qms (b := s) ?_
 unfold qfR
 exact qm1 h hl hk
theorem qle {A B : Int} (k : Nat) (hA : 0 <= A) (hm : A % 2 ^ k = 0) (hB : 0 <= B) (hBk : B < 2 ^ k) (hs : A + B < 4294967296) : bits .or .u32 A B = A + B := by
 obtain ⟨a, rfl⟩ : ∃ a : Nat, A = a := ⟨A.toNat, by omega⟩
 obtain ⟨b, rfl⟩ : ∃ b : Nat, B = b := ⟨B.toNat, by omega⟩
 have hm' : a % 2 ^ k = 0 := by
  have : ((a : Int) % ((2 ^ k : Nat) : Int)) = 0 := by rw [Int.natCast_pow]; exact hm
  omega
 have hb' : b < 2 ^ k := by
  have : (b : Int) < ((2 ^ k : Nat) : Int) := by rw [Int.natCast_pow]; exact hBk
  omega
 obtain ⟨q, rfl⟩ : ∃ q, a = 2 ^ k * q := ⟨a / 2 ^ k, by have := Nat.div_add_mod a (2 ^ k); omega⟩
 show IntKind.wrap .u32 ((BitVec.ofInt 32 ((2 ^ k * q : Nat) : Int) ||| BitVec.ofInt 32 (b : Int)).toNat : Nat) = _
 rw [BitVec.toNat_or, BitVec.ofInt_natCast, BitVec.ofInt_natCast, BitVec.toNat_ofNat, BitVec.toNat_ofNat, Nat.mod_eq_of_lt (show 2 ^ k * q < 2 ^ 32 by omega), Nat.mod_eq_of_lt (show b < 2 ^ 32 by omega), <- Nat.two_pow_add_eq_or_of_lt hb']
 rw [qaI _ (by omega)]
 omega
def get4V (a b c d : Int) : Int := bits .or .u32 (bits .or .u32 (bits .or .u32 (IntKind.wrap .u32 (IntKind.wrap .u32 a * 2 ^ 24)) (IntKind.wrap .u32 (IntKind.wrap .u32 b * 2 ^ 16))) (IntKind.wrap .u32 (IntKind.wrap .u32 c * 2 ^ 8))) (IntKind.wrap .u32 d)
theorem qoj {a b c d : Int} (ha : 0 <= a /\ a < 256) (hb : 0 <= b /\ b < 256) (hc : 0 <= c /\ c < 256) (hd : 0 <= d /\ d < 256) : get4V a b c d = ((a * 256 + b) * 256 + c) * 256 + d := by
 unfold get4V
 rw [qaI a (by omega), qaI b (by omega), qaI c (by omega), qaI d (by omega), qaI (a * 2 ^ 24) (by omega), qaI (b * 2 ^ 16) (by omega), qaI (c * 2 ^ 8) (by omega)]
 rw [qle (A := a * 2 ^ 24) (B := b * 2 ^ 16) 24 (by omega) (by omega) (by omega) (by omega) (by omega)]
 rw [qle (B := c * 2 ^ 8) 16 (by omega) (by omega) (by omega) (by omega) (by omega)]
 rw [qle (B := d) 8 (by omega) (by omega) (by omega) (by omega) (by omega)]
 omega
theorem qr5 {n : Int} (h : 0 <= n /\ n < 4294967296) : get4V (n / 16777216 % 256) (n / 65536 % 256) (n / 256 % 256) (n % 256) = n := by
 rw [qoj (by omega) (by omega) (by omega) (by omega)]
 omega
def first4 (l : List Int) : Int := get4V (l.getD 0 0) (l.getD 1 0) (l.getD 2 0) (l.getD 3 0)
theorem getD_some {l : List Int} {n : Nat} (h : n < l.length) : l[n]? = some (l.getD n 0) := by rw [List.getD_eq_getElem?_getD, List.getElem?_eq_getElem h]; rfl
theorem qrC {S : List Nat} {w : World} {s : Sl} {l : List Int} {K : Int -> World -> Prop} (h : RdB S w s l) (hl : 4 <= l.length) (hk : K (first4 l) w) :
  (idx s 0 1 fun a => ld (.int .u8) a w fun x2 => idx s 1 1 fun a => ld (.int .u8) a w fun x4 => idx s 2 1 fun a => ld (.int .u8) a w fun x6 => idx s 3 1 fun a => ld (.int .u8) a w fun x8 => K (get4V x2 x4 x6 x8) w) := by
 refine RdB.at h 0 rfl (getD_some (by omega)) ?_
 refine RdB.at h 1 rfl (getD_some (by omega)) ?_
 refine RdB.at h 2 rfl (getD_some (by omega)) ?_
 refine RdB.at h 3 rfl (getD_some (by omega)) ?_
 exact hk
theorem qpX {S : List Nat} {w : World} {s : Sl} {l : List Int} {K : Int -> World -> Prop} (h : RdB S w s l) (hl : 4 <= l.length) (hk : K (first4 l) w.drew) : call Tryz.prog 131 [.slice s.a s.len s.cap] [.one (.int .u32)] w K := by
 refine qlJ (b := s) ?_
 unfold qfP
 exact qrC (w := w.drew) h hl hk
end Go.Proofs.YtmbcedengdoamaaGreatDoor
end
