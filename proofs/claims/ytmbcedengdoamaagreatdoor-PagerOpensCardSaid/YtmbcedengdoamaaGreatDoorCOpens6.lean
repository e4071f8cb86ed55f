/- Texts FormsM, LpD, LpE, LwM, RsR, FormsL, LpA, PmF, LpF, LpG, LpH, LpI: contracts of the program's functions, one behind the other. Conditions: those that stand in each line. -/
import Derived.Test.YtmbcedengdoamaaGreatDoorCOpens1
import Derived.Test.YtmbcedengdoamaaGreatDoorProg
import Derived.KernelRfl
import Derived.Test.YtmbcedengdoamaaGreatDoorCOpens5
import Derived.Test.YtmbcedengdoamaaGreatDoorCOpens2
import Derived.Test.YtmbcedengdoamaaGreatDoorCOpens4
import Derived.Lib.SlBytesConst
section
set_option linter.unusedVariables false
set_option maxRecDepth 100000
namespace Go.Proofs.YtmbcedengdoamaaGreatDoor
open Go Go.Pt
@[reducible] def qjM : List Cell := [Cell.int IntKind.u8, Cell.int IntKind.u32, Cell.int IntKind.u8, Cell.slice, Cell.int IntKind.u16, Cell.slice]
@[reducible] def qbJ : List Cell := [Cell.slice, Cell.slice, Cell.int IntKind.i64, Cell.bool, Cell.int IntKind.i64]
def qbm (ops : Sl) (turned : Sl) (K : Bool -> World -> Prop) (w : World) : Prop := join (Bool) (fun X_1 => cond (decide ((↑ops.len : Int) > 20)) (X_1 true w) (X_1 (decide ((↑turned.len : Int) > 20)) w)) <| fun (b_2 : Bool) w_3 => cond b_2 (call Tryz.prog 12 [] ([.one .bool]) w_3 <| fun (b_4 : Bool) w_5 => K b_4 w_5) (call Tryz.prog 26 ([.int .i64 12]) ([.raw, .one .bool]) w_3 <| fun (t_6 : List Value × Bool) w_7 => newZ Tryz.prog 66 w_7 <| fun r_8 w_9 => chk (List.length t_6.fst = 95) <| st ⟨r_8, 0, none⟩ t_6.fst w_9 <| fun w_10 => cond (!t_6.snd) (K false w_10) (loop (Int) (fun X_11 (x_12 : Int) w_13 => cond (decide (x_12 < (↑ops.len : Int))) (idx ops x_12 6 <| fun a_14 => ldA (qjM) a_14 w_13 <| fun (t_15 : Int × Int × Int × Sl × Int × Sl) => new (Obj.cells #[.int .u8 0, .int .u32 0, .int .u8 0, .slice none 0 0, .int .u16 0, .slice none 0 0] 52) w_13 <| fun r_16 w_17 => st ⟨r_16, 0, none⟩ (HL.mk qjM t_15) w_17 <| fun w_18 => join (Bool) (fun X_19 => ld .slice ⟨r_16, 3, none⟩ w_18 <| fun (s_20 : Sl) => cond (decide ((↑s_20.len : Int) <= 600)) (ld (.int .u8) ⟨r_16, 0, none⟩ w_18 <| fun (x_21 : Int) => cond (decide (Int.tmod x_21 12 < 6)) (ldA (qjM) ⟨r_16, 0, none⟩ w_18 <| fun (t_22 : Int × Int × Int × Sl × Int × Sl) => call Tryz.prog 27 ([.pointer (some ⟨r_8, 0, none⟩), .agg (List.toArray (HL.mk qjM t_22))]) ([.one .bool]) w_18 <| fun (b_23 : Bool) w_24 => X_19 (!b_23) w_24) (X_19 false w_18)) (X_19 false w_18)) <| fun (b_25 : Bool) w_26 => cond b_25 (K false w_26) (X_11 (IntKind.wrap .i64 (x_12 + 1)) w_26)) (loop (Int) (fun X_27 (x_28 : Int) w_29 => cond (decide (x_28 < (↑turned.len : Int))) (join (PUnit) (fun X_30 => idx turned x_28 6 <| fun a_31 => ldA (qjM) a_31 w_29 <| fun (t_32 : Int × Int × Int × Sl × Int × Sl) => new (Obj.cells #[.int .u8 0, .int .u32 0, .int .u8 0, .slice none 0 0, .int .u16 0, .slice none 0 0] 52) w_29 <| fun r_33 w_34 => st ⟨r_33, 0, none⟩ (HL.mk qjM t_32) w_34 <| fun w_35 => ld .slice ⟨r_33, 3, none⟩ w_35 <| fun (s_36 : Sl) => cond ((↑s_36.len : Int) == 512) (ld .ptr ⟨r_8, 0, none⟩ w_35 <| fun (p_37 : Option Addr) => ld (.int .u32) ⟨r_33, 1, none⟩ w_35 <| fun (x_38 : Int) => ld .slice ⟨r_33, 3, none⟩ w_35 <| fun (s_39 : Sl) => call Tryz.prog 28 ([.pointer p_37, .int .i64 (IntKind.wrap .i64 (Int.tmod x_38 12)), .slice s_39.a s_39.len s_39.cap]) ([.one (.int .i64)]) w_35 <| fun (x_40 : Int) w_41 => ldA (qbJ) ⟨r_8, 2, none⟩ w_41 <| fun (t_42 : Sl × Sl × Int × Bool × Int) => ld (.int .u32) ⟨r_33, 1, none⟩ w_41 <| fun (x_43 : Int) => ld .slice ⟨r_33, 3, none⟩ w_41 <| fun (s_44 : Sl) => runQ [.one .str] (fun w_45 => (convert 22 9 (.slice s_44.a s_44.len s_44.cap)).run Tryz.prog w_45) w_41 <| fun (x_46 : ByteArray) => call Tryz.prog 29 ([.agg (List.toArray (HL.mk qbJ t_42)), .int .i64 (IntKind.wrap .i64 (Int.tmod x_43 12)), .string x_46]) ([.agg qbJ, .one (.int .i64)]) w_41 <| fun (t_47 : (Sl × Sl × Int × Bool × Int) × Int) w_48 => st ⟨r_8, 2, none⟩ (HL.mk qbJ t_47.fst) w_48 <| fun w_49 => X_30 () w_49) (X_30 () w_35)) <| fun (x_50 : PUnit) w_51 => X_27 (IntKind.wrap .i64 (x_28 + 1)) w_51) (ld .ptr ⟨r_8, 0, none⟩ w_29 <| fun (p_52 : Option Addr) => call Tryz.prog 24 ([.pointer p_52]) ([.one .ptr, .one (.int .i64)]) w_29 <| fun (t_53 : Option Addr × Int) w_54 => ldA (qbJ) ⟨r_8, 2, none⟩ w_54 <| fun (t_55 : Sl × Sl × Int × Bool × Int) => call Tryz.prog 30 ([.agg (List.toArray (HL.mk qbJ t_55))]) ([.raw, .one (.int .i64)]) w_54 <| fun (t_56 : List Value × Int) w_57 => newZ Tryz.prog 63 w_57 <| fun r_58 w_59 => chk (List.length t_56.fst = 64) <| st ⟨r_58, 0, none⟩ t_56.fst w_59 <| fun w_60 => join (Bool) (fun X_61 => cond (!t_53.snd == t_56.snd) (X_61 true w_60) (X_61 (!Option.isNone t_53.fst == !t_56.snd == 0) w_60)) <| fun (b_62 : Bool) w_63 => cond b_62 (K false w_63) (call Tryz.prog 12 [] ([.one .bool]) (World.drew w_63) <| fun (b_64 : Bool) w_65 => cond b_64 (cond (Option.isNone t_53.fst) (K true w_65) (ld (.int .u64) ⟨r_58, 5, none⟩ w_65 <| fun (x_66 : Int) => call Tryz.prog 25 ([.pointer t_53.fst]) ([.one (.int .u64)]) w_65 <| fun (x_67 : Int) w_68 => held [fun w_69 => World.cell? w_69 ⟨r_58, 5, none⟩ = some (.int .u64 x_66)] w_68 <| cond (x_67 == x_66) (ld .slice ⟨r_58, 37, none⟩ w_68 <| fun (s_70 : Sl) => call Tryz.prog 9 ([.pointer t_53.fst]) ([.one .slice]) w_68 <| fun (s_71 : Sl) w_72 => held [fun w_73 => World.cell? w_73 ⟨r_58, 37, none⟩ = some (.slice s_70.a s_70.len s_70.cap)] w_72 <| call Tryz.prog 31 ([.slice s_71.a s_71.len s_71.cap, .slice s_70.a s_70.len s_70.cap]) ([.one .bool]) w_72 <| fun (b_74 : Bool) w_75 => cond b_74 (ld .slice ⟨r_58, 33, none⟩ w_75 <| fun (s_76 : Sl) => call Tryz.prog 32 ([.pointer t_53.fst]) ([.one .slice]) w_75 <| fun (s_77 : Sl) w_78 => held [fun w_79 => World.cell? w_79 ⟨r_58, 33, none⟩ = some (.slice s_76.a s_76.len s_76.cap)] w_78 <| call Tryz.prog 31 ([.slice s_77.a s_77.len s_77.cap, .slice s_76.a s_76.len s_76.cap]) ([.one .bool]) w_78 <| fun (b_80 : Bool) w_81 => K b_80 w_81) (K false w_75)) (K false w_68))) (K false w_65)))) 0 w_13)) 0 w_10))
def qcV : List Ann := [.n, .n, .j [(22, .one .bool)], .n, .n, .n, .n, .n, .n, .n, .l [(32, .one (.int .i64))], .n, .n, .n, .n, .j [(50, .one .bool)], .n, .n, .n, .l [(54, .one (.int .i64))], .n, .n, .j [], .n, .n, .n, .n, .n, .n, .j [(110, .one .bool)], .n, .n, .o [[0, 1, 2, 3, 4, 5, 7, 8, 9, 6, 10, 11, 12, 14, 15, 16, 13, 17, 18, 19, 20, 22, 23, 21, 24, 25, 26, 27, 28]]]
theorem qfp {ops : Sl} {turned : Sl} {w : World} {K : Bool -> World -> Prop} (hF : qbm ops turned K w) : call Tryz.prog 5 [.slice ops.a ops.len ops.cap, .slice turned.a turned.len turned.cap] [.one .bool] w K := qab (an := qcV) Tryz.func5 (by kernel_rfl) ((show fnPt (std Tryz.prog) Tryz.prog Tryz.f5 qcV [.one .bool] [.slice ops.a ops.len ops.cap, .slice turned.a turned.len turned.cap] K w = qbm ops turned K w by kernel_rfl).mpr hF)
def qcL (blocks : Int) (K : ((List Value) × Bool) -> World -> Prop) (w : World) : Prop := newZ Tryz.prog 66 w <| fun r_1 w_2 => call Tryz.prog 8 ([.int .i64 blocks]) ([.one .ptr, .one .ptr]) w_2 <| fun (t_3 : Option Addr × Option Addr) w_4 => call Tryz.prog 65 ([.int .i64 blocks]) ([.agg qbJ, .one (.int .i64)]) w_4 <| fun (t_5 : (Sl × Sl × Int × Bool × Int) × Int) w_6 => new (Obj.cells #[.slice none 0 0, .slice none 0 0, .int .i64 0, .bool false, .int .i64 0] 55) w_6 <| fun r_7 w_8 => st ⟨r_7, 0, none⟩ (HL.mk qbJ t_5.fst) w_8 <| fun w_9 => ldA (qbJ) ⟨r_7, 0, none⟩ w_9 <| fun (t_10 : Sl × Sl × Int × Bool × Int) => call Tryz.prog 66 ([.agg (List.toArray (HL.mk qbJ t_10))]) ([.agg qbJ, .one (.int .i64)]) w_9 <| fun (t_11 : (Sl × Sl × Int × Bool × Int) × Int) w_12 => st ⟨r_7, 0, none⟩ (HL.mk qbJ t_11.fst) w_12 <| fun w_13 => ldA (qbJ) ⟨r_7, 0, none⟩ w_13 <| fun (t_14 : Sl × Sl × Int × Bool × Int) => call Tryz.prog 30 ([.agg (List.toArray (HL.mk qbJ t_14))]) ([.raw, .one (.int .i64)]) w_13 <| fun (t_15 : List Value × Int) w_16 => newZ Tryz.prog 63 w_16 <| fun r_17 w_18 => chk (List.length t_15.fst = 64) <| st ⟨r_17, 0, none⟩ t_15.fst w_18 <| fun w_19 => ldV 64 ⟨r_17, 0, none⟩ w_19 <| fun (vs_20 : List Value) => runQ [.raw] (fun w_21 => (Instr.build 66 (#[(0, .pointer t_3.fst), (1, .pointer t_3.snd), (2, .agg (List.toArray vs_20))])).run Tryz.prog w_21) w_19 <| fun (vs_22 : List Value) => cond (!Option.isNone t_3.fst) (cond (!Option.isNone t_3.snd) (chk (List.length vs_22 = 95) <| st ⟨r_1, 0, none⟩ vs_22 w_19 <| fun w_23 => ldV 95 ⟨r_1, 0, none⟩ w_23 <| fun (vs_24 : List Value) => K ((vs_24, t_15.snd == 0)) w_23) (chk (List.length vs_22 = 95) <| st ⟨r_1, 0, none⟩ vs_22 w_19 <| fun w_25 => ldV 95 ⟨r_1, 0, none⟩ w_25 <| fun (vs_26 : List Value) => K ((vs_26, false)) w_25)) (chk (List.length vs_22 = 95) <| st ⟨r_1, 0, none⟩ vs_22 w_19 <| fun w_27 => ldV 95 ⟨r_1, 0, none⟩ w_27 <| fun (vs_28 : List Value) => K ((vs_28, false)) w_27)
def qeI : List Ann := [.n, .n, .n, .n, .n, .n]
theorem qh7 {blocks : Int} {w : World} {K : ((List Value) × Bool) -> World -> Prop} (hF : qcL blocks K w) : call Tryz.prog 26 [.int .i64 blocks] [.raw, .one .bool] w K := qab (an := qeI) Tryz.func26 (by kernel_rfl) ((show fnPt (std Tryz.prog) Tryz.prog Tryz.f26 qeI [.raw, .one .bool] [.int .i64 blocks] K w = qcL blocks K w by kernel_rfl).mpr hF)
def qbv (b : Option Addr) (o0 : Int) (o1 : Int) (o2 : Int) (o3 : Sl) (o4 : Int) (o5 : Sl) (K : Bool -> World -> Prop) (w : World) : Prop := new (Obj.cells #[.int .u8 o0, .int .u32 o1, .int .u8 o2, .slice o3.a o3.len o3.cap, .int .u16 o4, .slice o5.a o5.len o5.cap] 52) w <| fun r_1 w_2 => ld (.int .u8) ⟨r_1, 0, none⟩ w_2 <| fun (x_3 : Int) => cond (Int.tmod x_3 12 == 5) (nn b <| fun a_4 => ld .ptr ⟨a_4.block, a_4.off + 1, none⟩ w_2 <| fun (p_5 : Option Addr) => call Tryz.prog 20 ([.pointer p_5]) ([.one (.int .i64)]) w_2 <| fun (x_6 : Int) w_7 => nn b <| fun a_8 => ldV 64 ⟨a_8.block, a_8.off + 2, none⟩ w_7 <| fun (vs_9 : List Value) => call Tryz.prog 67 ([.agg (List.toArray vs_9)]) ([.raw, .one (.int .i64)]) w_7 <| fun (t_10 : List Value × Int) w_11 => newZ Tryz.prog 63 w_11 <| fun r_12 w_13 => chk (List.length t_10.fst = 64) <| st ⟨r_12, 0, none⟩ t_10.fst w_13 <| fun w_14 => ldV 64 ⟨r_12, 0, none⟩ w_14 <| fun (vs_15 : List Value) => nn b <| fun a_16 => chk (List.length vs_15 = 64) <| st ⟨a_16.block, a_16.off + 2, none⟩ vs_15 w_14 <| fun w_17 => K (x_6 == t_10.snd) w_17) (cond (Int.tmod x_3 12 == 6) (nn b <| fun a_18 => ld .ptr ⟨a_18.block, a_18.off + 1, none⟩ w_2 <| fun (p_19 : Option Addr) => call Tryz.prog 68 ([.pointer p_19]) [] w_2 <| fun (x_20 : PUnit) w_21 => nn b <| fun a_22 => ldV 64 ⟨a_22.block, a_22.off + 2, none⟩ w_21 <| fun (vs_23 : List Value) => call Tryz.prog 69 ([.agg (List.toArray vs_23)]) [.raw] w_21 <| fun (vs_24 : List Value) w_25 => nn b <| fun a_26 => chk (List.length vs_24 = 64) <| st ⟨a_26.block, a_26.off + 2, none⟩ vs_24 w_25 <| fun w_27 => K true w_27) (cond (Int.tmod x_3 12 == 7) (nn b <| fun a_28 => ld .ptr ⟨a_28.block, a_28.off + 1, none⟩ (World.drew w_2) <| fun (p_29 : Option Addr) => nn b <| fun a_30 => ldV 27 (⟨(Addr.add a_30 2).block, (Addr.add a_30 2).off + 37, none⟩) (World.drew w_2) <| fun (vs_31 : List Value) => nn b <| fun a_32 => ld (.int .i64) (⟨(Addr.add a_32 2).block, (Addr.add a_32 2).off + 35, none⟩) (World.drew w_2) <| fun (x_33 : Int) => call Tryz.prog 70 ([.pointer p_29]) ([.one .ptr]) (World.drew w_2) <| fun (p_34 : Option Addr) w_35 => held [fun w_36 => World.cell? w_36 (⟨(Addr.add a_32 2).block, (Addr.add a_32 2).off + 35, none⟩) = some (.int .i64 x_33), fun w_37 => cellsAt w_37 (⟨(Addr.add a_30 2).block, (Addr.add a_30 2).off + 37, none⟩) 0 vs_31] w_35 <| nn b <| fun a_38 => st ⟨a_38.block, a_38.off + 66, none⟩ ([.pointer p_34]) w_35 <| fun w_39 => nn b <| fun a_40 => chk (List.length vs_31 = 27) <| st ⟨a_40.block, a_40.off + 67, none⟩ vs_31 w_39 <| fun w_41 => nn b <| fun a_42 => st ⟨a_42.block, a_42.off + 94, none⟩ ([.int .i64 x_33]) w_41 <| fun w_43 => join (PUnit) (fun X_44 => nn b <| fun a_45 => ld .bool (⟨(Addr.add a_45 2).block, (Addr.add a_45 2).off + 36, none⟩) w_43 <| fun (b_46 : Bool) => cond b_46 (nn b <| fun a_47 => st ⟨a_47.block, a_47.off + 94, none⟩ ([.int .i64 (-1)]) w_43 <| fun w_48 => X_44 () w_48) (X_44 () w_43)) <| fun (x_49 : PUnit) w_50 => nn b <| fun a_51 => ld .ptr ⟨a_51.block, a_51.off + 66, none⟩ (World.drew w_50) <| fun (p_52 : Option Addr) => nn b <| fun a_53 => ld .bool (⟨(Addr.add a_53 2).block, (Addr.add a_53 2).off + 36, none⟩) (World.drew w_50) <| fun (b_54 : Bool) => K (Option.isNone p_52 == b_54) (World.drew w_50)) (cond (Int.tmod x_3 12 == 8) (nn b <| fun a_55 => ld .ptr ⟨a_55.block, a_55.off + 1, none⟩ (World.drew w_2) <| fun (p_56 : Option Addr) => nn b <| fun a_57 => ld .ptr ⟨a_57.block, a_57.off + 66, none⟩ (World.drew w_2) <| fun (p_58 : Option Addr) => call Tryz.prog 71 ([.pointer p_56, .pointer p_58]) ([.one (.int .i64)]) (World.drew w_2) <| fun (x_59 : Int) w_60 => nn b <| fun a_61 => ld .bool (⟨(Addr.add a_61 2).block, (Addr.add a_61 2).off + 36, none⟩) w_60 <| fun (b_62 : Bool) => cond b_62 (K (x_59 == 7) w_60) (join (Bool) (fun X_63 => nn b <| fun a_64 => ld .ptr ⟨a_64.block, a_64.off + 66, none⟩ (World.drew w_60) <| fun (p_65 : Option Addr) => cond (Option.isNone p_65) (X_63 true (World.drew w_60)) (nn b <| fun a_66 => ld (.int .i64) ⟨a_66.block, a_66.off + 94, none⟩ (World.drew w_60) <| fun (x_67 : Int) => nn b <| fun a_68 => ld (.int .i64) (⟨(Addr.add a_68 2).block, (Addr.add a_68 2).off + 35, none⟩) (World.drew w_60) <| fun (x_69 : Int) => X_63 (!x_67 == x_69) (World.drew w_60))) <| fun (b_70 : Bool) w_71 => cond b_70 (K (x_59 == 10) w_71) (nn b <| fun a_72 => ldV 27 ⟨a_72.block, a_72.off + 67, none⟩ w_71 <| fun (vs_73 : List Value) => nn b <| fun a_74 => chk (List.length vs_73 = 27) <| st (⟨(Addr.add a_74 2).block, (Addr.add a_74 2).off + 37, none⟩) vs_73 w_71 <| fun w_75 => K (x_59 == 0) w_75))) (cond (Int.tmod x_3 12 == 9) (call Tryz.prog 72 ([.pointer b]) ([.one .bool]) w_2 <| fun (b_76 : Bool) w_77 => K b_76 w_77) (cond (Int.tmod x_3 12 == 10) (nn b <| fun a_78 => ld .ptr a_78 (World.drew w_2) <| fun (p_79 : Option Addr) => ld (.int .u32) ⟨r_1, 1, none⟩ (World.drew w_2) <| fun (x_80 : Int) => call Tryz.prog 17 ([.pointer p_79, .int .i64 (IntKind.wrap .i64 (Int.tmod x_80 20))]) [] (World.drew w_2) <| fun (x_81 : PUnit) w_82 => nn b <| fun a_83 => ldA (qbJ) ⟨a_83.block, a_83.off + 2, none⟩ (World.drew w_82) <| fun (t_84 : Sl × Sl × Int × Bool × Int) => ld (.int .u32) ⟨r_1, 1, none⟩ (World.drew w_82) <| fun (x_85 : Int) => call Tryz.prog 73 ([.agg (List.toArray (HL.mk qbJ t_84)), .int .i64 (IntKind.wrap .i64 (Int.tmod x_85 20))]) ([.agg qbJ]) (World.drew w_82) <| fun (t_86 : Sl × Sl × Int × Bool × Int) w_87 => nn b <| fun a_88 => st ⟨a_88.block, a_88.off + 2, none⟩ (HL.mk qbJ t_86) w_87 <| fun w_89 => K true w_89) (cond (Int.tmod x_3 12 == 11) (nn b <| fun a_90 => ld .ptr a_90 (World.drew w_2) <| fun (p_91 : Option Addr) => ld .slice ⟨r_1, 5, none⟩ (World.drew w_2) <| fun (s_92 : Sl) => call Tryz.prog 22 ([.pointer p_91, .slice s_92.a s_92.len s_92.cap]) [] (World.drew w_2) <| fun (x_93 : PUnit) w_94 => nn b <| fun a_95 => ldA (qbJ) ⟨a_95.block, a_95.off + 2, none⟩ (World.drew w_94) <| fun (t_96 : Sl × Sl × Int × Bool × Int) => ld .slice ⟨r_1, 5, none⟩ (World.drew w_94) <| fun (s_97 : Sl) => call Tryz.prog 74 ([.agg (List.toArray (HL.mk qbJ t_96)), .slice s_97.a s_97.len s_97.cap]) ([.agg qbJ]) (World.drew w_94) <| fun (t_98 : Sl × Sl × Int × Bool × Int) w_99 => nn b <| fun a_100 => st ⟨a_100.block, a_100.off + 2, none⟩ (HL.mk qbJ t_98) w_99 <| fun w_101 => call Tryz.prog 72 ([.pointer b]) ([.one .bool]) w_101 <| fun (b_102 : Bool) w_103 => K b_102 w_103) (ldA (qjM) ⟨r_1, 0, none⟩ w_2 <| fun (t_104 : Int × Int × Int × Sl × Int × Sl) => call Tryz.prog 18 ([.pointer b, .agg (List.toArray (HL.mk qjM t_104))]) ([.one .bool]) w_2 <| fun (b_105 : Bool) w_106 => K b_105 w_106)))))))
def qdg : List Ann := [.n, .n, .n, .n, .n, .n, .n, .n, .n, .n, .n, .n, .n, .n, .o [[0, 1, 2, 3, 4, 5, 6, 8, 9, 10, 11, 12, 13, 14, 15, 16, 17, 7, 18, 19, 20, 21, 22, 23, 24, 25, 26]], .j [], .n, .n, .o [[0, 1, 2, 3, 4, 5, 6, 7, 8, 9, 10, 11]], .n, .n, .o [[0, 1, 2, 3, 4, 5, 6, 7, 8, 9]], .n, .n, .n, .n, .j [(128, .one .bool)], .o [[0, 1, 2, 3, 4, 5, 6, 7, 8, 9, 10, 11, 12, 13, 14, 15, 16]], .n, .n, .n, .n, .n, .n, .n, .o [[0, 1, 2, 3, 4, 5, 6, 7, 8]], .n, .o [[0, 1, 2, 3, 4, 5, 6, 7, 8, 9, 10, 11, 12, 13, 14]], .n, .n, .n, .o [[0, 1, 2, 3, 4, 5, 6]], .n, .o [[0, 1, 2, 3, 4, 5, 6, 7, 8, 9, 10, 11, 12]], .n, .n]
theorem qf1 {b : Option Addr} {o0 : Int} {o1 : Int} {o2 : Int} {o3 : Sl} {o4 : Int} {o5 : Sl} {w : World} {K : Bool -> World -> Prop} (hF : qbv b o0 o1 o2 o3 o4 o5 K w) : call Tryz.prog 27 [.pointer b, .agg #[.int .u8 o0, .int .u32 o1, .int .u8 o2, .slice o3.a o3.len o3.cap, .int .u16 o4, .slice o5.a o5.len o5.cap]] [.one .bool] w K := qab (an := qdg) Tryz.func27 (by kernel_rfl) ((show fnPt (std Tryz.prog) Tryz.prog Tryz.f27 qdg [.one .bool] [.pointer b, .agg #[.int .u8 o0, .int .u32 o1, .int .u8 o2, .slice o3.a o3.len o3.cap, .int .u16 o4, .slice o5.a o5.len o5.cap]] K w = qbv b o0 o1 o2 o3 o4 o5 K w by kernel_rfl).mpr hF)
def qbP (o0 : Int) (o1 : Int) (o2 : Int) (o3 : Sl) (o4 : Int) (o5 : Sl) (K : Sl -> World -> Prop) (w : World) : Prop := new (Obj.cells #[.int .u8 o0, .int .u32 o1, .int .u8 o2, .slice o3.a o3.len o3.cap, .int .u16 o4, .slice o5.a o5.len o5.cap] 52) w <| fun r_1 w_2 => ld .slice ⟨r_1, 3, none⟩ (World.drew w_2) <| fun (s_3 : Sl) => ld (.int .u16) ⟨r_1, 4, none⟩ (World.drew w_2) <| fun (x_4 : Int) => new (Obj.cells #[] 5) (World.drew w_2) <| fun r_5 w_6 => held [fun w_7 => World.cell? w_7 ⟨r_1, 4, none⟩ = some (.int .u16 x_4), fun w_8 => World.cell? w_8 ⟨r_1, 3, none⟩ = some (.slice s_3.a s_3.len s_3.cap)] w_6 <| run [.one .slice] ((Builtin.append_ (#[22, 22]) 22 (#[.slice (some ⟨r_5, 0, none⟩) 0 0, .slice s_3.a s_3.len s_3.cap])).run Tryz.prog w_6) <| fun (s_9 : Sl) w_10 => held [fun w_11 => World.cell? w_11 ⟨r_1, 4, none⟩ = some (.int .u16 x_4)] w_10 <| run [.one .slice] ((Builtin.append_ (#[22, 3]) 22 (#[.slice s_9.a s_9.len s_9.cap, .int .i64 (Int.tmod (IntKind.wrap .i64 x_4) 600)])).run Tryz.prog w_10) <| fun (s_12 : Sl) w_13 => K s_12 w_13
def qdO : List Ann := [.n, .n, .o [[1, 2, 4, 5, 6, 7, 0, 3, 8, 9]]]
theorem qgy {o0 : Int} {o1 : Int} {o2 : Int} {o3 : Sl} {o4 : Int} {o5 : Sl} {w : World} {K : Sl -> World -> Prop} (hF : qbP o0 o1 o2 o3 o4 o5 K w) : call Tryz.prog 47 [.agg #[.int .u8 o0, .int .u32 o1, .int .u8 o2, .slice o3.a o3.len o3.cap, .int .u16 o4, .slice o5.a o5.len o5.cap]] [.one .slice] w K := qab (an := qdO) Tryz.func47 (by kernel_rfl) ((show fnPt (std Tryz.prog) Tryz.prog Tryz.f47 qdO [.one .slice] [.agg #[.int .u8 o0, .int .u32 o1, .int .u8 o2, .slice o3.a o3.len o3.cap, .int .u16 o4, .slice o5.a o5.len o5.cap]] K w = qbP o0 o1 o2 o3 o4 o5 K w by kernel_rfl).mpr hF)
end Go.Proofs.YtmbcedengdoamaaGreatDoor
end
section
set_option linter.unusedVariables false
set_option linter.unusedSimpArgs false
namespace Go.Proofs.YtmbcedengdoamaaGreatDoor
open Go Go.Pt
attribute [local irreducible] ld ldA ldV fld fldA newZ st new idx idxS idxA slc slcS slcP mkS chk nn call callV inv run runQ runU join loop held ext rng undefer s2a nxt ent IntKind.wrap
abbrev BTT : TypeId := 66
abbrev OPT : TypeId := 52
def bothV (d p : Option Addr) (x : RV) (m : Option Addr) (wv : List Value) (t : Int) : List Value := [.pointer d, .pointer p] ++ refV x ++ (.pointer m :: wv ++ [.int .i64 t])
section
variable {d p m : Option Addr} {x x' : RV} {wv : List Value} {t : Int}
theorem qtX (hx : x.Ok) : ([Value.pointer d, .pointer p] ++ refV x).length = 66 := by rw [List.length_append, qax hx]; rfl
theorem qoc (hx : x.Ok) (hw : wv.length = 27) : (bothV d p x m wv t).length = 95 := by rw [bothV, List.length_append, qtX hx, List.length_append, List.length_cons, hw]; rfl
theorem qdv (hx : x.Ok) (hw : wv.length = 27) : (bothV d p x m wv t).toArray.size = 95 := qoc hx hw
theorem qtf : (bothV d p x m wv t).toArray[0]? = some (.pointer d) := rfl
theorem qla : (bothV d p x m wv t).toArray[1]? = some (.pointer p) := rfl
theorem qtt (hx : x.Ok) : ((bothV d p x m wv t).toArray.toList.drop 2).take 64 = refV x := by
 show ((refV x ++ (Value.pointer m :: wv ++ [Value.int .i64 t])).take 64) = _
 have := List.take_left (l₁ := refV x) (l₂ := Value.pointer m :: wv ++ [Value.int .i64 t])
 rw [qax hx] at this
 exact this
theorem qpY (hx : x.Ok) : ((bothV d p x m wv t).toArray.toList.drop 2).take 5 = HL.mk dC x.d := rfl
theorem qpV (hx : x.Ok) (hx' : x'.Ok) : splice (bothV d p x m wv t).toArray 2 (refV x') = (bothV d p x' m wv t).toArray := by
 have := qat (A := [Value.pointer d, .pointer p]) (X := refV x) (Y := refV x') (Z := .pointer m :: wv ++ [.int .i64 t]) (by rw [qax hx, qax hx'])
 exact this
theorem qsw (hx : x.Ok) {d' : RDv} : splice (bothV d p x m wv t).toArray 2 (HL.mk dC d') = (bothV d p { x with d := d' } m wv t).toArray := by
 have := qat (A := [Value.pointer d, .pointer p]) (X := rvA x) (Y := (rdC d').toList) (Z := (supV x.sup.1 x.sup.2 ++ rvB x ++ rvW x) ++ (.pointer m :: wv ++ [.int .i64 t])) rfl
 have e1 : bothV d p x m wv t = [Value.pointer d, .pointer p] ++ rvA x ++ ((supV x.sup.1 x.sup.2 ++ rvB x ++ rvW x) ++ (.pointer m :: wv ++ [.int .i64 t])) := by simp only [bothV, refV, List.append_assoc]
 have e2 : bothV d p { x with d := d' } m wv t = [Value.pointer d, .pointer p] ++ (rdC d').toList ++ ((supV x.sup.1 x.sup.2 ++ rvB x ++ rvW x) ++ (.pointer m :: wv ++ [.int .i64 t])) := by simp only [bothV, refV, rvA, rvB, rvW, List.append_assoc]
 rw [e1, e2]; exact this
theorem qrm (hw : wv.all Value.oneCell' = true) : (bothV d p x m wv t).all Value.oneCell' = true := by
 rw [bothV, List.all_append, List.all_append, qlH]
 simp only [List.all_cons, List.all_append, hw]
 rfl
end
structure OpM where
 act : Int
 n : Int
 kind : Int
 body : List Int
 long : Int
 lost : List (Int × Int)
abbrev OpC := Int × Int × Int × Sl × Int × Sl
def opA (o : OpC) : Array Value := #[.int .u8 o.1, .int .u32 o.2.1, .int .u8 o.2.2.1, .slice o.2.2.2.1.a o.2.2.2.1.len o.2.2.2.1.cap, .int .u16 o.2.2.2.2.1, .slice o.2.2.2.2.2.a o.2.2.2.2.2.len o.2.2.2.2.2.cap]
structure OpOk (S : List Nat) (w : World) (o : OpC) (a : OpM) : Prop where
 act : o.1 = a.act
 n : o.2.1 = a.n
 kind : o.2.2.1 = a.kind
 body : RdB S w o.2.2.2.1 a.body
 long : o.2.2.2.2.1 = a.long
 lost : Rds encLoss 2 S w o.2.2.2.2.2 a.lost
 ract : 0 <= a.act /\ a.act < 256
 rn : U32 a.n
 rkind : 0 <= a.kind /\ a.kind < 256
 rlong : 0 <= a.long /\ a.long < 65536
 rbody : IsB a.body
theorem OpOk.frame {S S' : List Nat} {w w' : World} {o : OpC} {a : OpM} (h : OpOk S w o a) (f : Fr S w w') (hS : ∀ b ∈ S', b ∈ S \/ w.heap.size <= b) : OpOk S' w' o a :=
 ⟨h.act, h.n, h.kind, h.body.frame f hS, h.long, h.lost.frame f hS, h.ract, h.rn, h.rkind, h.rlong, h.rbody⟩
theorem OpOk.frame0 {S : List Nat} {w w' : World} {o : OpC} {a : OpM} (h : OpOk S w o a) (f : Fr [] w w') : OpOk S w' o a :=
 ⟨h.act, h.n, h.kind, h.body.frame0 f, h.long, h.lost.frame0 f, h.ract, h.rn, h.rkind, h.rlong, h.rbody⟩
def OpM.all (a : OpM) : List Int := a.body ++ zs (a.long % 600).toNat
theorem OpM.all_IsB {a : OpM} (h : IsB a.body) : IsB a.all := h.append (IsB.zs _)
theorem OpM.all_len {a : OpM} (h : a.body.length <= 600) (hl : 0 <= a.long) : a.all.length <= 1200 := by
 rw [OpM.all, List.length_append, qaC]
 omega
theorem qc4 {S : List Nat} {w : World} {o : OpC} {a : OpM} {K : Sl -> World -> Prop} (h : OpOk S w o a) (hl : a.body.length <= 600) (hk : ∀ s B w', BufB w' s a.all B -> Fr [] w w' -> (∀ b ∈ B, w.heap.size <= b) -> K s w') :
  call Tryz.prog 47 [.agg (opA o)] [.one .slice] w K := by
 obtain ⟨o0, o1, o2, o3, o4, o5⟩ := o
 refine qgy (o0 := o0) (o1 := o1) (o2 := o2) (o3 := o3) (o4 := o4) (o5 := o5) ?_
 unfold qbP
 have hb := h.body
 have hlong := h.long
 have hrl := h.rlong
 dsimp only at hb hlong
 refine Own.new' (Own.start [] w) fun r w1 e1 f1 ho => ?_
 have hod := ho.drew
 refine Own.ld (c := .slice) hod 0 rfl o3 rfl ?_
 refine Own.ld (c := .int .u16) hod 0 rfl o4 rfl ?_
 refine Own.new' hod fun r5 w2 e2 f2 ho2 => ?_
 refine qaW (ho2.cell 1 rfl rfl) (ho2.cell 1 rfl rfl) ?_
 obtain ⟨i, hi, hz, hsz, hby⟩ := qnG
 have f02 := ho2.fr
 have hrd : RdB [] w2 o3 a.body := Rds.weak (hb.frame0 f02) fun b hb => nomatch hb
 have hb0 : Buf encB 1 w2 ⟨some ⟨r5, 0, none⟩, 0, 0⟩ [] [r5] := Buf.empty (ho2.at (i := 0) rfl)
 refine Buf.appSrc (s := ⟨some ⟨r5, 0, none⟩, 0, 0⟩) (e := 5) (l := []) (ys := a.body) hb0 qaq (by kernel_rfl) hi hz hsz rfl (qhW (e' := 5) hrd qaq (fun x u hu => by simp only [encB, List.mem_singleton] at hu; subst hu; rfl) (by kernel_rfl)) hrd.1 (by rw [hby, hrd.1]; simp; omega) (by rw [hrd.1]; simp; omega) fun s3 B3 w3 b3 f3 n3 hs3 => ?_
 rw [List.nil_append] at b3
 have l5 : w1.heap.size <= r5 := by rw [e2]; exact Nat.le_refl _
 have f23 : Fr [] w1 w3 := ((Fr.refl [] w1).drew.trans f2).trans' f3 fun b hb => by rw [List.mem_singleton.1 hb]; exact .inr l5
 have ho3 := ho.frame0 f23
 refine qar (ho3.cell 0 rfl rfl) ?_
 have hn : Int.tmod (IntKind.wrap .i64 o4) 600 = ((a.long % 600).toNat : Int) := by
  rw [wi' o4 (by omega), hlong, Int.tmod_eq_emod_of_nonneg hrl.1]
  omega
 rw [hn]
 refine qtb (kd := .i64) b3 (fun e => ?_) (by kernel_rfl) (by kernel_rfl) hi hz rfl hsz hby (by omega) (by omega) fun s4 B4 w4 b4 f4 n4 => ?_
 ·rcases hs3 with h | ⟨h, _⟩
  ·rw [e] at h; cases h
  ·cases h
 ·have hB3 : ∀ b ∈ B3, w.heap.size <= b := fun b hb => by
   have := f1.size
   rcases n3 b hb with h | h
   ·rw [List.mem_singleton.1 h]; omega
   ·have := f02.size; omega
  refine hk s4 B4 w4 b4 (ho3.fr.trans' f4 fun b hb => .inr (hB3 b hb)) fun b hb => ?_
  rcases n4 b hb with h | h
  ·exact hB3 b h
  ·exact Nat.le_trans ho3.fr.size h
section
structure Pair (w : World) (bb dbk pb : Nat) (FD X F : List Nat) (x : RV) (D : DiskM) (M : PgM) (D' : DiskM) (M' : PgM) (k : Nat) (m : Option Addr) (wv : List Value) (t : Int) : Prop where
 cell : w.heap[bb]? = some (.cells (bothV (some ⟨dbk, 0, none⟩) (some ⟨pb, 0, none⟩) x m wv t).toArray BTT (0, 0))
 disk : DiskAt w dbk FD D
 lim : Lim D k
 pager : PagerAt w X pb (dbOf dbk M) F M
 sub : ∀ b ∈ FD, b ∈ X
 bx : bb ∈ X
 nd : bb ∉ FD
 ref : RP (X ++ F) w x D' M'
 wl : wv.length = 27
 w1 : wv.all Value.oneCell' = true
section
variable {w w' : World} {bb dbk pb : Nat} {FD X F : List Nat} {x : RV} {D D' : DiskM} {M M' : PgM} {k : Nat} {m : Option Addr} {wv : List Value} {t : Int}
theorem Pair.frame0 (h : Pair w bb dbk pb FD X F x D M D' M' k m wv t) (f : Fr [] w w') : Pair w' bb dbk pb FD X F x D M D' M' k m wv t :=
 ⟨by rw [f.block bb (qac h.cell) (by simp)]; exact h.cell, h.disk.frame0 f, h.lim, h.pager.frame0 f, h.sub, h.bx, h.nd, h.ref.frame0 f, h.wl, h.w1⟩
theorem Pair.bnF (h : Pair w bb dbk pb FD X F x D M D' M' k m wv t) : bb ∉ F := h.pager.sep bb h.bx
theorem Pair.lt (h : Pair w bb dbk pb FD X F x D M D' M' k m wv t) : ∀ b ∈ X ++ F, b < w.heap.size := fun b hb => (List.mem_append.1 hb).elim (h.pager.xlt b) (h.pager.lt b)
theorem Pair.real {F2 : List Nat} {M2 : PgM} (h : Pair w bb dbk pb FD X F x D M D' M' k m wv t) (hp : PagerAt w' X pb (dbOf dbk M) F2 M2) (ho : M2.over = M.over) (f : Fr F w w') (n : ∀ b ∈ F2, b ∈ F \/ w.heap.size <= b) : Pair w' bb dbk pb FD X F2 x D M2 D' M' k m wv t :=
 ⟨by rw [f.block bb (qac h.cell) h.bnF]; exact h.cell, h.disk.frame f fun b hb => h.pager.sep b (h.sub b hb), h.lim, by rw [dbOf, ho]; exact hp, h.sub, h.bx, h.nd,
  h.ref.frame (f.mono fun b hb _ => List.mem_append_right _ hb) (fun b hb => (List.mem_append.1 hb).elim (fun h => .inl (List.mem_append_left _ h)) fun hb => (n b hb).imp (List.mem_append_right _) id), h.wl, h.w1⟩
theorem qa8 {wq : World} {r : Nat} {x' : RV} {M2 : PgM} {D2 : DiskM} {K : World -> Prop} (h : Pair w bb dbk pb FD X F x D M D' M' k m wv t) (f : Fr [] w wq) (hz : wq.heap[r]? = some (.cells (refV rvZ).toArray RPT (0, 0))) (hrn : w.heap.size <= r) (hr : RP (r :: (X ++ F)) wq x' D2 M2)
  (kk : ∀ w', Pair w' bb dbk pb FD X F x' D M D2 M2 k m wv t -> Fr [bb] w w' -> K w') :
  chk ((refV x').length = 64) (st ⟨r, 0, none⟩ (refV x') wq fun w32 => ldV 64 ⟨r, 0, none⟩ w32 fun vs => nn (some ⟨bb, 0, none⟩) fun a => chk (vs.length = 64) (st ⟨a.block, a.off + 2, none⟩ vs w32 fun w35 => K w35)) := by
 have hx := h.ref.ok
 have hx' := hr.ok
 have l64 := qax hx'
 have lz := qax qap
 refine qan l64 ?_
 refine qcU hz (refV x').toArray (qa5 (by rw [List.size_toArray, lz, l64])) qlH (by rw [List.size_toArray, lz, l64]; exact Nat.le_of_ble_eq_true rfl) fun w1 c1 f1 => ?_
 refine qaw c1 (refV x') l64 (by rw [List.drop_zero, List.take_of_length_le (Nat.le_of_eq l64)]) ?_
 refine qad (qan l64 ?_)
 have f01 : Fr [] w w1 := f.trans' f1 fun b hb => by rw [List.mem_singleton.1 hb]; exact .inr hrn
 have h1 := h.frame0 f01
 have hbr : bb ≠ r := by have := qac h.cell; omega
 refine qcU (off := 0 + 2) h1.cell (bothV (some ⟨dbk, 0, none⟩) (some ⟨pb, 0, none⟩) x' m wv t).toArray (qpV hx hx') qlH (by rw [qdv hx h.wl, l64]; exact Nat.le_of_ble_eq_true rfl) fun w2 c2 f2 => ?_
 have hr2 : RP (X ++ F) w2 x' D2 M2 := hr.frame ((f1.mono fun b hb _ => by rw [List.mem_singleton.1 hb]; simp : Fr (r :: (X ++ F)) wq w1).trans (f2.mono fun b hb _ => by rw [List.mem_singleton.1 hb]; exact List.mem_cons_of_mem _ (List.mem_append_left _ h.bx))) fun b hb => .inl (List.mem_cons_of_mem _ hb)
 refine kk w2 ⟨c2, h1.disk.frame f2 fun b hb hm => h.nd ((show b = bb from List.mem_singleton.1 hm) ▸ hb), h.lim, h1.pager.frameX (f2.mono fun b hb _ => by rw [List.mem_singleton.1 hb]; exact h.bx) (fun b hb => Nat.lt_of_lt_of_le (h1.pager.xlt b hb) f2.size) (fun b hb => .inl hb), h.sub, h.bx, h.nd, hr2, h.wl, h.w1⟩ ((f01.mono fun b hb => nomatch hb).trans f2)
structure PgM.Small (M : PgM) : Prop where
 lists : M.lists.length <= 100000
 free : M.free.length <= 100000
 deferred : M.deferred.length <= 100000
 fresh : M.fresh.length <= 100000
 freeS : M.free.Pairwise (· < ·)
 defS : M.deferred.Pairwise (· < ·)
 body : ∀ e ∈ M.fresh, e.2.2.length <= 100000
 bytes : ∀ e ∈ M.fresh, IsB e.2.2
end
def pageM (D D' : DiskM) (M M' : PgM) (a : OpM) : Bool × PgM × PgM :=
 if a.act % 12 = 0 then (decide ((makeV M a.kind a.all).1 = (makeR M' a.kind a.all).1), (makeV M a.kind a.all).2, (makeR M' a.kind a.all).2)
 else if a.act % 12 = 1 then (decide ((putV M a.n a.kind a.all).1 = (putV M' a.n a.kind a.all).1), (putV M a.n a.kind a.all).2, (putV M' a.n a.kind a.all).2)
 else if a.act % 12 = 2 then (decide ((dropV M a.n).1 = (dropV M' a.n).1), (dropV M a.n).2, (dropV M' a.n).2)
 else if a.act % 12 = 3 then (decide (pagerReadM D M a.n = pagerReadM D' M' a.n), M, M')
 else (decide ((setRootM M (IntKind.wrap .i32 a.n) a.n a.kind a.long).1 = (setRootM M' (IntKind.wrap .i32 a.n) a.n a.kind a.long).1), (setRootM M (IntKind.wrap .i32 a.n) a.n a.kind a.long).2, (setRootM M' (IntKind.wrap .i32 a.n) a.n a.kind a.long).2)
theorem qqO (M : PgM) (kd : Int) (l : List Int) : (makeV M kd l).2.over = M.over := by unfold makeV; split; rfl; split; rfl; split <;> rfl
theorem qrk (M : PgM) (n kd : Int) (l : List Int) : (putV M n kd l).2.over = M.over := by
 unfold putV
 split
 ·rfl
 ·split
  ·rfl
  ·split <;> rfl
theorem qqP (M : PgM) (n : Int) : (dropV M n).2.over = M.over := by
 unfold dropV
 split
 ·rfl
 ·split
  ·rfl
  ·split <;> rfl
theorem qnC (M : PgM) (t a b c : Int) : (setRootM M t a b c).2.over = M.over := by
 unfold setRootM
 split
 ·rfl
 ·split <;> rfl
abbrev opCs : List Cell := [.int .u8, .int .u32, .int .u8, .slice, .int .u16, .slice]
theorem qmx (x : Int) : -2147483648 <= IntKind.wrap .i32 x /\ IntKind.wrap .i32 x < 2147483648 := by
 unfold IntKind.wrap
 have h1 : (IntKind.i32.signed) = true := rfl
 have h2 : ∀ y : Int, y % (2 : Int) ^ IntKind.i32.bits = y % 4294967296 := fun y => rfl
 have h3 : (2 : Int) ^ IntKind.i32.bits = 4294967296 := rfl
 have h4 : (2 : Int) ^ (IntKind.i32.bits - 1) = 2147483648 := rfl
 simp only [h1, h3, h4, Bool.true_and, decide_eq_true_eq]
 split <;> omega
theorem qhO {D : DiskM} {M : PgM} (hD : D.Ok) (hB : ∀ e ∈ M.fresh, IsB e.2.2) (n : Int) : IsB (pagerReadM D M n).2.1 := by
 have hz : IsB ([] : List Int) := fun x hx => nomatch hx
 unfold pagerReadM
 split
 ·exact hz
 split
 ·rename_i q hq
  exact hB _ (qaJ hq).2
 ·split
  ·exact hz
  split
  ·exact hz
  ·exact (qhq (qaY hD n).1 n).1
theorem qsC {w : World} {bb dbk pb : Nat} {FD X F : List Nat} {x : RV} {D D' : DiskM} {M M' : PgM} {k : Nat} {m : Option Addr} {wv : List Value} {t : Int} {o : OpC} {a : OpM} {K : Bool -> World -> Prop}
  (h : Pair w bb dbk pb FD X F x D M D' M' k m wv t) (hM : M.Small) (hM' : M'.Small) (hD' : D'.Ok) (hv : Hv w) (hop : OpOk (X ++ F) w o a) (hl : a.body.length <= 600)
  (kk : ∀ F2 x2 w2, Pair w2 bb dbk pb FD X F2 x2 D (pageM D D' M M' a).2.1 D' (pageM D D' M M' a).2.2 k m wv t -> Fr (bb :: F) w w2 -> (∀ b ∈ F2, b ∈ F \/ w.heap.size <= b) -> K (pageM D D' M M' a).1 w2) :
  call Tryz.prog 18 [.pointer (some ⟨bb, 0, none⟩), .agg (opA o)] [.one .bool] w K := by
 obtain ⟨o0, o1, o2, o3, o4, o5⟩ := o
 have ea : o0 = a.act := hop.act
 have en : o1 = a.n := hop.n
 have ek : o2 = a.kind := hop.kind
 have el : o4 = a.long := hop.long
 have hact := hop.ract
 have hnu := hop.rn
 have hkd := hop.rkind
 have hlg := hop.rlong
 have hBa := OpM.all_IsB hop.rbody
 have hLa := OpM.all_len hl hlg.1
 refine qfQ (b := some ⟨bb, 0, none⟩) (o0 := o0) (o1 := o1) (o2 := o2) (o3 := o3) (o4 := o4) (o5 := o5) ?_
 unfold qbx
 refine Own.new' (Own.start F w) fun r1 w2 e2 f2 ho => ?_
 have h2 := h.frame0 f2
 have ok2 := hop.frame0 f2
 have hx := h.ref.ok
 have l64 := qax hx
 have sepO : ∀ {L : List (Nat × Obj)}, (∀ p ∈ L, w.heap.size <= p.1) -> ∀ p ∈ L, p.1 ∉ F := fun hL p hp hb => by have := hL p hp; have := h.pager.lt _ hb; omega
 have hr1 : ∀ p ∈ [(r1, Obj.cells (opA (o0, o1, o2, o3, o4, o5)) OPT (0, 0))], w.heap.size <= p.1 := fun p hp => by rw [List.mem_singleton.1 hp]; show w.heap.size <= r1; omega
 refine Own.ld (c := .int .u8) ho 0 rfl o0 rfl ?_
 have htm : Int.tmod o0 12 = a.act % 12 := by rw [ea, Int.tmod_eq_emod_of_nonneg hact.1]
 rw [htm]
 have hod := ho.drew
 have h2d := h2.frame0 (Fr.refl [] w2).drew
 have ok2d := ok2.frame0 (Fr.refl [] w2).drew
 have bvx : ((bothV (some ⟨dbk, 0, none⟩) (some ⟨pb, 0, none⟩) x m wv t).toArray.toList.drop (0 + 2)).take 64 = refV x := qtt hx
 have cellP : ∀ {w' : World}, w'.heap[bb]? = some (.cells (bothV (some ⟨dbk, 0, none⟩) (some ⟨pb, 0, none⟩) x m wv t).toArray BTT (0, 0)) -> w'.cell? ⟨bb, 0 + 1, none⟩ = some (.pointer (some ⟨pb, 0, none⟩)) := fun hc => by rw [qaj hc]; exact qla
 have cellsX : ∀ {w' : World}, w'.heap[bb]? = some (.cells (bothV (some ⟨dbk, 0, none⟩) (some ⟨pb, 0, none⟩) x m wv t).toArray BTT (0, 0)) -> cellsAt w' ⟨bb, 0 + 2, none⟩ 0 (refV x) := fun hc => qaQ hc _ _ 0 (by rw [Nat.add_zero, l64]; exact bvx)
 have cellsO : ∀ {w' : World} {r : Nat}, w'.heap[r]? = some (.cells (opA (o0, o1, o2, o3, o4, o5)) OPT (0, 0)) -> cellsAt w' ⟨r, 0, none⟩ 0 (HL.mk opCs (o0, o1, o2, o3, o4, o5)) := fun hc => qaQ hc _ _ 0 rfl
 refine qaa (fun hc => ?_) (fun hc0 => ?_)
 ·have h0 : a.act % 12 = 0 := by simpa using hc
  rw [show pageM D D' M M' a = (decide ((makeV M a.kind a.all).1 = (makeR M' a.kind a.all).1), (makeV M a.kind a.all).2, (makeR M' a.kind a.all).2) from if_pos h0] at kk
  subst ek
  refine qad ?_
  refine qag (c := .ptr) (off := 0 + 1) h2d.cell (some ⟨pb, 0, none⟩) qla ?_
  refine Own.ld (c := .int .u8) hod 0 rfl a.kind rfl ?_
  refine Own.ldA (cl := opCs) hod 0 rfl (o0, o1, a.kind, o3, o4, o5) rfl ?_
  refine qc4 (o := (o0, o1, a.kind, o3, o4, o5)) ok2d hl fun s8 B8 w9 b8 f9 n8 => ?_
  have ho9 := hod.frame0 f9
  have h9 := h2d.frame0 f9
  refine qaW (ho9.cell 0 rfl rfl) (cellP h9.cell) ?_
  have hf2 := f2.size
  have away : ∀ b ∈ B8, b ∉ X ++ F := fun b hb hm => by have := n8 b hb; have := h.lt b hm; have : w2.heap.size <= b := n8 b hb; omega
  refine qoO h9.pager (Buf.rds qaq b8 away) (by omega) (Nat.le_trans hM.free (by decide)) fun F13 w13 hp13 f13 n13 => ?_
  have h13 := h9.real hp13 (qqO M a.kind a.all) f13 n13
  have ho13 := (ho9.frame f13 (fun b hb => .inl hb) (sepO hr1)).drew
  have h13d := h13.frame0 (Fr.refl [] w13).drew
  have f09 : Fr [] w w9 := (f2.trans (Fr.refl [] w2).drew).trans f9
  have ok13 : OpOk (X ++ F13) w13.drew (o0, o1, a.kind, o3, o4, o5) a := ((hop.frame0 f09).frame (S' := X ++ F13) (f13.mono fun b hb _ => List.mem_append_right _ hb) (fun b hb => (List.mem_append.1 hb).elim (fun h => .inl (List.mem_append_left _ h)) fun hb => (n13 b hb).imp (List.mem_append_right _) id)).frame0 (Fr.refl [] w13).drew
  have fin : ∀ {x5 : RV} {w35 : World}, Pair w35 bb dbk pb FD X F13 x5 D (makeV M a.kind a.all).2 D' (makeR M' a.kind a.all).2 k m wv t -> Fr [bb] w13 w35 ->
    cond ((makeV M a.kind a.all).1.1 == (makeR M' a.kind a.all).1.1) (K ((makeV M a.kind a.all).1.2 == (makeR M' a.kind a.all).1.2) w35) (K false w35) := by
   intro x5 w35 h35 f35
   have hK := kk F13 x5 w35 h35 ((f09.mono fun b hb => nomatch hb).trans ((f13.mono fun b hb _ => List.mem_cons_of_mem _ hb).trans (f35.mono fun b hb _ => by rw [List.mem_singleton.1 hb]; simp))) fun b hb => (n13 b hb).imp id fun h => Nat.le_trans f09.size h
   refine qaa (fun hc => ?_) (fun hc => ?_)
   ·have e1 : (makeV M a.kind a.all).1.1 = (makeR M' a.kind a.all).1.1 := by simpa using hc
    rw [show ((makeV M a.kind a.all).1.2 == (makeR M' a.kind a.all).1.2) = decide ((makeV M a.kind a.all).1 = (makeR M' a.kind a.all).1) from by
     by_cases e2 : (makeV M a.kind a.all).1.2 = (makeR M' a.kind a.all).1.2
     ·rw [decide_eq_true (Prod.ext e1 e2), beq_iff_eq]; exact e2
     ·rw [decide_eq_false (fun e => e2 (congrArg Prod.snd e)), beq_eq_false_iff_ne]; exact e2]
    exact hK
   ·have e1 : ¬ (makeV M a.kind a.all).1.1 = (makeR M' a.kind a.all).1.1 := by simpa using hc
    rw [decide_eq_false (fun e => e1 (congrArg Prod.fst e))] at hK
    exact hK
  refine ⟨?_, ?_, ?_⟩
  ·refine qad ?_
   refine qaw (off := 0 + 2) h13d.cell (refV x) l64 bvx ?_
   refine Own.ld (c := .int .u8) ho13 0 rfl a.kind rfl ?_
   refine Own.ldA (cl := opCs) ho13 0 rfl (o0, o1, a.kind, o3, o4, o5) rfl ?_
   refine qc4 (o := (o0, o1, a.kind, o3, o4, o5)) ok13 hl fun s18 B18 w19 b18 f19 n18 => ?_
   have ho19 := ho13.frame0 f19
   have h19 := h13d.frame0 f19
   have rd18 := Buf.rds (S := []) qaq b18 (fun b hb hm => nomatch hm)
   refine qaW (ho19.cell 0 rfl rfl) (cellsX h19.cell) ?_
   refine qaX (S := []) rd18 hBa ?_
   refine qls (S := X ++ F13) (l := a.all) h19.ref h19.lt hM'.fresh hM'.free fun x5 w25 hp25 f25 => ?_
   have ho25 := ho19.frame0 f25
   have h25 := h19.frame0 f25
   refine Own.newZ (Own.start [] w25) qbD fun r w27 e27 hoz => ?_
   have ho27 := ho25.frame0 hoz.fr
   have h27 := h25.frame0 hoz.fr
   refine qhp (qde (S := []) (rd18.frame0 (f25.trans hoz.fr)) hBa) (cellsO (ho27.at (i := 0) rfl)) (ho27.cell 0 rfl rfl) (cellsX h27.cell) ?_
   have f1327 : Fr [] w13 w27 := (((Fr.refl [] w13).drew.trans f19).trans f25).trans hoz.fr
   refine qa8 h13 f1327 (hoz.at (i := 0) rfl) (by rw [e27]; exact (((Fr.refl [] w13).drew.trans f19).trans f25).size) (hp25.frame (hoz.fr.mono fun b hb => nomatch hb) fun b hb => (List.mem_cons.1 hb).elim (fun e => .inr (by rw [e, e27]; exact Nat.le_refl _)) .inl) fun w35 h35 f35 => ?_
   exact fin h35 f35
  ·refine qad ?_
   refine qaw (off := 0 + 2) h13d.cell (refV x) l64 bvx ?_
   refine Own.ld (c := .int .u8) ho13 0 rfl a.kind rfl ?_
   refine Own.ldA (cl := opCs) ho13 0 rfl (o0, o1, a.kind, o3, o4, o5) rfl ?_
   refine qc4 (o := (o0, o1, a.kind, o3, o4, o5)) ok13 hl fun s18 B18 w19 b18 f19 n18 => ?_
   have ho19 := ho13.frame0 f19
   have h19 := h13d.frame0 f19
   have rd18 := Buf.rds (S := []) qaq b18 (fun b hb hm => nomatch hm)
   refine qaW (ho19.cell 0 rfl rfl) (cellsX h19.cell) ?_
   refine qaX (S := []) rd18 hBa ?_
   refine Own.newZ (Own.start [] w19) qbD fun r w27 e27 hoz => ?_
   have ho27 := ho19.frame0 hoz.fr
   have h27 := h19.frame0 hoz.fr
   refine qhp (qde (S := []) (rd18.frame0 hoz.fr) hBa) (cellsO (ho27.at (i := 0) rfl)) (ho27.cell 0 rfl rfl) (cellsX h27.cell) ?_
   have hrQ : RP (r :: (X ++ F13)) w27 x D' M' := h19.ref.frame (hoz.fr.mono fun b hb => nomatch hb) fun b hb => (List.mem_cons.1 hb).elim (fun e => .inr (by rw [e, e27]; exact Nat.le_refl _)) .inl
   have hSQ : ∀ b ∈ r :: (X ++ F13), b < w27.heap.size := fun b hb => (List.mem_cons.1 hb).elim (fun e => by rw [e]; exact qac (hoz.at (i := 0) rfl)) (h27.lt b)
   refine qls (S := r :: (X ++ F13)) (l := a.all) hrQ hSQ hM'.fresh hM'.free fun x5 w25 hp25 f25 => ?_
   have f1325 : Fr [] w13 w25 := (((Fr.refl [] w13).drew.trans f19).trans hoz.fr).trans f25
   refine qa8 h13 f1325 ((hoz.frame0 f25).at (i := 0) rfl) (by rw [e27]; exact ((Fr.refl [] w13).drew.trans f19).size) hp25 fun w35 h35 f35 => ?_
   exact fin h35 f35
  ·refine qad ?_
   refine qaw (off := 0 + 2) h13d.cell (refV x) l64 bvx ?_
   refine Own.ld (c := .int .u8) ho13 0 rfl a.kind rfl ?_
   refine Own.ldA (cl := opCs) ho13 0 rfl (o0, o1, a.kind, o3, o4, o5) rfl ?_
   refine Own.newZ (Own.start [] w13.drew) qbD fun r w27 e27 hoz => ?_
   have ho27 := ho13.frame0 hoz.fr
   have h27 := h13d.frame0 hoz.fr
   have ok27 := ok13.frame0 hoz.fr
   refine qbk (cellsO (ho27.at (i := 0) rfl)) (ho27.cell 0 rfl rfl) (cellsX h27.cell) ?_
   refine qc4 (o := (o0, o1, a.kind, o3, o4, o5)) ok27 hl fun s18 B18 w19 b18 f19 n18 => ?_
   have ho19 := ho27.frame0 f19
   have h19 := h27.frame0 f19
   have rd18 := Buf.rds (S := []) qaq b18 (fun b hb hm => nomatch hm)
   refine qaW (ho19.cell 0 rfl rfl) (cellsX h19.cell) ?_
   refine qaX (S := []) rd18 hBa ?_
   have hrQ : RP (r :: (X ++ F13)) w19 x D' M' := (h13d.ref.frame (hoz.fr.mono fun b hb => nomatch hb) fun b hb => (List.mem_cons.1 hb).elim (fun e => .inr (by rw [e, e27]; exact Nat.le_refl _)) .inl : RP (r :: (X ++ F13)) w27 x D' M').frame0 f19
   have hSQ : ∀ b ∈ r :: (X ++ F13), b < w19.heap.size := fun b hb => (List.mem_cons.1 hb).elim (fun e => by rw [e]; exact qac ((hoz.frame0 f19).at (i := 0) rfl)) (h19.lt b)
   refine qls (S := r :: (X ++ F13)) (l := a.all) hrQ hSQ hM'.fresh hM'.free fun x5 w25 hp25 f25 => ?_
   have f1325 : Fr [] w13 w25 := (((Fr.refl [] w13).drew.trans hoz.fr).trans f19).trans f25
   refine qa8 h13 f1325 (((hoz.frame0 f19).frame0 f25).at (i := 0) rfl) (by rw [e27]; exact ((Fr.refl [] w13).drew).size) hp25 fun w35 h35 f35 => ?_
   exact fin h35 f35
 have h0 : ¬ a.act % 12 = 0 := by simpa using hc0
 refine qaa (fun hc => ?_) (fun hc1 => ?_)
 ·have h1 : a.act % 12 = 1 := by simpa using hc
  rw [show pageM D D' M M' a = (decide ((putV M a.n a.kind a.all).1 = (putV M' a.n a.kind a.all).1), (putV M a.n a.kind a.all).2, (putV M' a.n a.kind a.all).2) from (if_neg h0).trans (if_pos h1)] at kk
  subst ek
  subst en
  refine qad ?_
  refine qag (c := .ptr) (off := 0 + 1) h2d.cell (some ⟨pb, 0, none⟩) qla ?_
  refine Own.ld (c := .int .u32) hod 0 rfl a.n rfl ?_
  refine Own.ld (c := .int .u8) hod 0 rfl a.kind rfl ?_
  refine Own.ldA (cl := opCs) hod 0 rfl (o0, a.n, a.kind, o3, o4, o5) rfl ?_
  refine qc4 (o := (o0, a.n, a.kind, o3, o4, o5)) ok2d hl fun s8 B8 w9 b8 f9 n8 => ?_
  have ho9 := hod.frame0 f9
  have h9 := h2d.frame0 f9
  refine qbk (ho9.cell 0 rfl rfl) (ho9.cell 0 rfl rfl) (cellP h9.cell) ?_
  have hf2 := f2.size
  have away : ∀ b ∈ B8, b ∉ X ++ F := fun b hb hm => by have := h.lt b hm; have : w2.heap.size <= b := n8 b hb; omega
  refine qtc h9.pager (Buf.rds qaq b8 away) (by omega) fun w13 hp13 f13 => ?_
  have n13 : ∀ b ∈ F, b ∈ F \/ w9.heap.size <= b := fun b hb => .inl hb
  have h13 := h9.real hp13 (qrk M a.n a.kind a.all) f13 n13
  have ho13 := (ho9.frame f13 (fun b hb => .inl hb) (sepO hr1)).drew
  have h13d := h13.frame0 (Fr.refl [] w13).drew
  have f09 : Fr [] w w9 := (f2.trans (Fr.refl [] w2).drew).trans f9
  have ok13 : OpOk (X ++ F) w13.drew (o0, a.n, a.kind, o3, o4, o5) a := ((hop.frame0 f09).frame (S' := X ++ F) (f13.mono fun b hb _ => List.mem_append_right _ hb) (fun b hb => .inl hb)).frame0 (Fr.refl [] w13).drew
  have fin : ∀ {x5 : RV} {w35 : World}, Pair w35 bb dbk pb FD X F x5 D (putV M a.n a.kind a.all).2 D' (putV M' a.n a.kind a.all).2 k m wv t -> Fr [bb] w13 w35 -> K ((putV M a.n a.kind a.all).1 == (putV M' a.n a.kind a.all).1) w35 := by
   intro x5 w35 h35 f35
   exact kk F x5 w35 h35 ((f09.mono fun b hb => nomatch hb).trans ((f13.mono fun b hb _ => List.mem_cons_of_mem _ hb).trans (f35.mono fun b hb _ => by rw [List.mem_singleton.1 hb]; simp))) fun b hb => .inl hb
  refine ⟨?_, ?_, ?_⟩
  ·refine qad ?_
   refine qaw (off := 0 + 2) h13d.cell (refV x) l64 bvx ?_
   refine Own.ld (c := .int .u32) ho13 0 rfl a.n rfl ?_
   refine Own.ld (c := .int .u8) ho13 0 rfl a.kind rfl ?_
   refine Own.ldA (cl := opCs) ho13 0 rfl (o0, a.n, a.kind, o3, o4, o5) rfl ?_
   refine qc4 (o := (o0, a.n, a.kind, o3, o4, o5)) ok13 hl fun s18 B18 w19 b18 f19 n18 => ?_
   have ho19 := ho13.frame0 f19
   have h19 := h13d.frame0 f19
   have rd18 := Buf.rds (S := []) qaq b18 (fun b hb hm => nomatch hm)
   refine qbk (ho19.cell 0 rfl rfl) (ho19.cell 0 rfl rfl) (cellsX h19.cell) ?_
   refine qaX (S := []) rd18 hBa ?_
   refine qll (S := X ++ F) (l := a.all) h19.ref h19.lt hM'.fresh fun x5 w25 hp25 f25 => ?_
   have ho25 := ho19.frame0 f25
   have h25 := h19.frame0 f25
   refine Own.newZ (Own.start [] w25) qbD fun r w27 e27 hoz => ?_
   have ho27 := ho25.frame0 hoz.fr
   have h27 := h25.frame0 hoz.fr
   refine qm8 (qde (S := []) (rd18.frame0 (f25.trans hoz.fr)) hBa) (cellsO (ho27.at (i := 0) rfl)) (ho27.cell 0 rfl rfl) (ho27.cell 0 rfl rfl) (cellsX h27.cell) ?_
   have f1327 : Fr [] w13 w27 := (((Fr.refl [] w13).drew.trans f19).trans f25).trans hoz.fr
   refine qa8 h13 f1327 (hoz.at (i := 0) rfl) (by rw [e27]; exact (((Fr.refl [] w13).drew.trans f19).trans f25).size) (hp25.frame (hoz.fr.mono fun b hb => nomatch hb) fun b hb => (List.mem_cons.1 hb).elim (fun e => .inr (by rw [e, e27]; exact Nat.le_refl _)) .inl) fun w35 h35 f35 => ?_
   exact fin h35 f35
  ·refine qad ?_
   refine qaw (off := 0 + 2) h13d.cell (refV x) l64 bvx ?_
   refine Own.ld (c := .int .u32) ho13 0 rfl a.n rfl ?_
   refine Own.ld (c := .int .u8) ho13 0 rfl a.kind rfl ?_
   refine Own.ldA (cl := opCs) ho13 0 rfl (o0, a.n, a.kind, o3, o4, o5) rfl ?_
   refine qc4 (o := (o0, a.n, a.kind, o3, o4, o5)) ok13 hl fun s18 B18 w19 b18 f19 n18 => ?_
   have ho19 := ho13.frame0 f19
   have h19 := h13d.frame0 f19
   have rd18 := Buf.rds (S := []) qaq b18 (fun b hb hm => nomatch hm)
   refine qbk (ho19.cell 0 rfl rfl) (ho19.cell 0 rfl rfl) (cellsX h19.cell) ?_
   refine qaX (S := []) rd18 hBa ?_
   refine Own.newZ (Own.start [] w19) qbD fun r w27 e27 hoz => ?_
   have ho27 := ho19.frame0 hoz.fr
   have h27 := h19.frame0 hoz.fr
   refine qm8 (qde (S := []) (rd18.frame0 hoz.fr) hBa) (cellsO (ho27.at (i := 0) rfl)) (ho27.cell 0 rfl rfl) (ho27.cell 0 rfl rfl) (cellsX h27.cell) ?_
   have hrQ : RP (r :: (X ++ F)) w27 x D' M' := h19.ref.frame (hoz.fr.mono fun b hb => nomatch hb) fun b hb => (List.mem_cons.1 hb).elim (fun e => .inr (by rw [e, e27]; exact Nat.le_refl _)) .inl
   have hSQ : ∀ b ∈ r :: (X ++ F), b < w27.heap.size := fun b hb => (List.mem_cons.1 hb).elim (fun e => by rw [e]; exact qac (hoz.at (i := 0) rfl)) (h27.lt b)
   refine qll (S := r :: (X ++ F)) (l := a.all) hrQ hSQ hM'.fresh fun x5 w25 hp25 f25 => ?_
   have f1325 : Fr [] w13 w25 := (((Fr.refl [] w13).drew.trans f19).trans hoz.fr).trans f25
   refine qa8 h13 f1325 ((hoz.frame0 f25).at (i := 0) rfl) (by rw [e27]; exact ((Fr.refl [] w13).drew.trans f19).size) hp25 fun w35 h35 f35 => ?_
   exact fin h35 f35
  ·refine qad ?_
   refine qaw (off := 0 + 2) h13d.cell (refV x) l64 bvx ?_
   refine Own.ld (c := .int .u32) ho13 0 rfl a.n rfl ?_
   refine Own.ld (c := .int .u8) ho13 0 rfl a.kind rfl ?_
   refine Own.ldA (cl := opCs) ho13 0 rfl (o0, a.n, a.kind, o3, o4, o5) rfl ?_
   refine Own.newZ (Own.start [] w13.drew) qbD fun r w27 e27 hoz => ?_
   have ho27 := ho13.frame0 hoz.fr
   have h27 := h13d.frame0 hoz.fr
   have ok27 := ok13.frame0 hoz.fr
   refine qhp (cellsO (ho27.at (i := 0) rfl)) (ho27.cell 0 rfl rfl) (ho27.cell 0 rfl rfl) (cellsX h27.cell) ?_
   refine qc4 (o := (o0, a.n, a.kind, o3, o4, o5)) ok27 hl fun s18 B18 w19 b18 f19 n18 => ?_
   have ho19 := ho27.frame0 f19
   have h19 := h27.frame0 f19
   have rd18 := Buf.rds (S := []) qaq b18 (fun b hb hm => nomatch hm)
   refine qbk (ho19.cell 0 rfl rfl) (ho19.cell 0 rfl rfl) (cellsX h19.cell) ?_
   refine qaX (S := []) rd18 hBa ?_
   have hrQ : RP (r :: (X ++ F)) w19 x D' M' := (h13d.ref.frame (hoz.fr.mono fun b hb => nomatch hb) fun b hb => (List.mem_cons.1 hb).elim (fun e => .inr (by rw [e, e27]; exact Nat.le_refl _)) .inl : RP (r :: (X ++ F)) w27 x D' M').frame0 f19
   have hSQ : ∀ b ∈ r :: (X ++ F), b < w19.heap.size := fun b hb => (List.mem_cons.1 hb).elim (fun e => by rw [e]; exact qac ((hoz.frame0 f19).at (i := 0) rfl)) (h19.lt b)
   refine qll (S := r :: (X ++ F)) (l := a.all) hrQ hSQ hM'.fresh fun x5 w25 hp25 f25 => ?_
   have f1325 : Fr [] w13 w25 := (((Fr.refl [] w13).drew.trans hoz.fr).trans f19).trans f25
   refine qa8 h13 f1325 (((hoz.frame0 f19).frame0 f25).at (i := 0) rfl) (by rw [e27]; exact ((Fr.refl [] w13).drew).size) hp25 fun w35 h35 f35 => ?_
   exact fin h35 f35
 have h1 : ¬ a.act % 12 = 1 := by simpa using hc1
 refine qaa (fun hc => ?_) (fun hc2 => ?_)
 ·have h2' : a.act % 12 = 2 := by simpa using hc
  rw [show pageM D D' M M' a = (decide ((dropV M a.n).1 = (dropV M' a.n).1), (dropV M a.n).2, (dropV M' a.n).2) from (if_neg h0).trans ((if_neg h1).trans (if_pos h2'))] at kk
  subst en
  refine qad ?_
  refine qag (c := .ptr) (off := 0 + 1) h2d.cell (some ⟨pb, 0, none⟩) qla ?_
  refine Own.ld (c := .int .u32) hod 0 rfl a.n rfl ?_
  refine qsi h2d.pager (Nat.le_trans hM.lists (by decide)) (Nat.le_trans hM.free (by decide)) (Nat.le_trans hM.deferred (by decide)) fun F13 w13 hp13 f13 n13 => ?_
  have h13 := h2d.real hp13 (qqP M a.n) f13 n13
  have ho13 := (hod.frame f13 (fun b hb => .inl hb) (sepO hr1)).drew
  have h13d := h13.frame0 (Fr.refl [] w13).drew
  have f09 : Fr [] w w2.drew := f2.trans (Fr.refl [] w2).drew
  have fin : ∀ {x5 : RV} {w35 : World}, Pair w35 bb dbk pb FD X F13 x5 D (dropV M a.n).2 D' (dropV M' a.n).2 k m wv t -> Fr [bb] w13 w35 -> K ((dropV M a.n).1 == (dropV M' a.n).1) w35 := by
   intro x5 w35 h35 f35
   exact kk F13 x5 w35 h35 ((f09.mono fun b hb => nomatch hb).trans ((f13.mono fun b hb _ => List.mem_cons_of_mem _ hb).trans (f35.mono fun b hb _ => by rw [List.mem_singleton.1 hb]; simp))) fun b hb => (n13 b hb).imp id fun h => Nat.le_trans f09.size h
  refine ⟨?_, ?_⟩
  ·refine qad ?_
   refine qaw (off := 0 + 2) h13d.cell (refV x) l64 bvx ?_
   refine Own.ld (c := .int .u32) ho13 0 rfl a.n rfl ?_
   refine qnj (S := X ++ F13) h13d.ref h13d.lt hM'.lists hM'.free hM'.deferred hM'.fresh hM'.freeS hM'.defS fun x5 w25 hp25 f25 => ?_
   have ho25 := ho13.frame0 f25
   have h25 := h13d.frame0 f25
   refine Own.newZ (Own.start [] w25) qbD fun r w27 e27 hoz => ?_
   have ho27 := ho25.frame0 hoz.fr
   have h27 := h25.frame0 hoz.fr
   refine qaW (ho27.cell 0 rfl rfl) (cellsX h27.cell) ?_
   have f1325 : Fr [] w13 w25 := (Fr.refl [] w13).drew.trans f25
   refine qa8 h13 (f1325.trans hoz.fr) (hoz.at (i := 0) rfl) (by rw [e27]; exact f1325.size) (hp25.frame (hoz.fr.mono fun b hb => nomatch hb) fun b hb => (List.mem_cons.1 hb).elim (fun e => .inr (by rw [e, e27]; exact Nat.le_refl _)) .inl) fun w35 h35 f35 => ?_
   exact fin h35 f35
  ·refine qad ?_
   refine qaw (off := 0 + 2) h13d.cell (refV x) l64 bvx ?_
   refine Own.ld (c := .int .u32) ho13 0 rfl a.n rfl ?_
   refine Own.newZ (Own.start [] w13.drew) qbD fun r w27 e27 hoz => ?_
   have ho27 := ho13.frame0 hoz.fr
   have h27 := h13d.frame0 hoz.fr
   refine qaW (ho27.cell 0 rfl rfl) (cellsX h27.cell) ?_
   have hrQ : RP (r :: (X ++ F13)) w27 x D' M' := h13d.ref.frame (hoz.fr.mono fun b hb => nomatch hb) fun b hb => (List.mem_cons.1 hb).elim (fun e => .inr (by rw [e, e27]; exact Nat.le_refl _)) .inl
   have hSQ : ∀ b ∈ r :: (X ++ F13), b < w27.heap.size := fun b hb => (List.mem_cons.1 hb).elim (fun e => by rw [e]; exact qac (hoz.at (i := 0) rfl)) (h27.lt b)
   refine qnj (S := r :: (X ++ F13)) hrQ hSQ hM'.lists hM'.free hM'.deferred hM'.fresh hM'.freeS hM'.defS fun x5 w25 hp25 f25 => ?_
   have f1325 : Fr [] w13 w25 := ((Fr.refl [] w13).drew.trans hoz.fr).trans f25
   refine qa8 h13 f1325 ((hoz.frame0 f25).at (i := 0) rfl) (by rw [e27]; exact ((Fr.refl [] w13).drew).size) hp25 fun w35 h35 f35 => ?_
   exact fin h35 f35
 have h2' : ¬ a.act % 12 = 2 := by simpa using hc2
 refine qaa (fun hc => ?_) (fun hc3 => ?_)
 ·have h3' : a.act % 12 = 3 := by simpa using hc
  rw [show pageM D D' M M' a = (decide (pagerReadM D M a.n = pagerReadM D' M' a.n), M, M') from (if_neg h0).trans ((if_neg h1).trans ((if_neg h2').trans (if_pos h3')))] at kk
  subst en
  refine qad ?_
  refine qag (c := .ptr) (off := 0 + 1) h2d.cell (some ⟨pb, 0, none⟩) qla ?_
  refine Own.ld (c := .int .u32) hod 0 rfl a.n rfl ?_
  have hv2 : Hv w2.drew := (hv.frame0 f2).frame0 (Fr.refl [] w2).drew
  refine qry h2d.disk h2d.lim h2d.pager hv2 hnu (Nat.le_trans hM.lists (by decide)) hM.body fun s13 w13 rd13 f13 => ?_
  have h13 := h2d.frame0 f13
  have ho13 := (hod.frame0 f13).drew
  have h13d := h13.frame0 (Fr.refl [] w13).drew
  refine qad ?_
  refine qaw (off := 0 + 2) h13d.cell (refV x) l64 bvx ?_
  refine Own.ld (c := .int .u32) ho13 0 rfl a.n rfl ?_
  refine qqX (S := X ++ F) h13d.ref hD' hnu hM'.lists hM'.free hM'.deferred hM'.fresh fun w25 f25 => ?_
  have f025 : Fr [] w w25 := (((f2.trans (Fr.refl [] w2).drew).trans f13).trans (Fr.refl [] w13).drew).trans f25
  have hK := kk F x w25 (h.frame0 f025) (f025.mono fun b hb => nomatch hb) fun b hb => .inl hb
  have hBr := qhO h.lim.ok hM.bytes a.n
  have hBr' := qhO hD' hM'.bytes a.n
  refine qaa (fun hc => ?_) (fun hc => ?_)
  ·have e1 : (pagerReadM D M a.n).1 = (pagerReadM D' M' a.n).1 := by simpa using hc
   refine qaX (S := []) ((rd13 [] (fun b hb => nomatch hb)).frame0 ((Fr.refl [] w13).drew.trans f25)) hBr ?_
   rw [qlE hBr hBr']
   refine qaa (fun hc => ?_) (fun hc => ?_)
   ·have e2 : (pagerReadM D M a.n).2.1 = (pagerReadM D' M' a.n).2.1 := of_decide_eq_true hc
    rw [show ((pagerReadM D M a.n).2.2 == (pagerReadM D' M' a.n).2.2) = decide (pagerReadM D M a.n = pagerReadM D' M' a.n) from by
     by_cases e3 : (pagerReadM D M a.n).2.2 = (pagerReadM D' M' a.n).2.2
     ·rw [decide_eq_true (Prod.ext e1 (Prod.ext e2 e3)), beq_iff_eq]; exact e3
     ·rw [decide_eq_false (fun e => e3 (by rw [e])), beq_eq_false_iff_ne]; exact e3]
    exact hK
   ·have e2 := of_decide_eq_false hc
    rw [decide_eq_false (fun e => e2 (by rw [e]))] at hK
    exact hK
  ·have e1 : ¬ (pagerReadM D M a.n).1 = (pagerReadM D' M' a.n).1 := by simpa using hc
   rw [decide_eq_false (fun e => e1 (by rw [e]))] at hK
   exact hK
 have h3' : ¬ a.act % 12 = 3 := by simpa using hc3
 rw [show pageM D D' M M' a = (decide ((setRootM M (IntKind.wrap .i32 a.n) a.n a.kind a.long).1 = (setRootM M' (IntKind.wrap .i32 a.n) a.n a.kind a.long).1), (setRootM M (IntKind.wrap .i32 a.n) a.n a.kind a.long).2, (setRootM M' (IntKind.wrap .i32 a.n) a.n a.kind a.long).2) from (if_neg h0).trans ((if_neg h1).trans ((if_neg h2').trans (if_neg h3')))] at kk
 subst en
 subst ek
 subst el
 refine Own.ld (c := .int .u32) ho 0 rfl a.n rfl ?_
 refine Own.ld (c := .int .u8) ho 0 rfl a.kind rfl ?_
 refine Own.ld (c := .int .u16) ho 0 rfl a.long rfl ?_
 rw [qaI a.kind (by omega), qaI a.long (by omega)]
 refine Own.newSt ho (cs' := #[.int .u32 a.n, .int .u32 a.kind, .int .u32 a.long]) rfl rfl (Nat.le_of_ble_eq_true rfl) fun rr w3 e3 ho3 f3 => ?_
 have h3 := h2.frame0 f3
 have h3d := h3.frame0 (Fr.refl [] w3).drew
 have ho3d := ho3.drew
 have hr2 : ∀ p ∈ [(rr, Obj.cells #[.int .u32 a.n, .int .u32 a.kind, .int .u32 a.long] 42 (0, 0)), (r1, Obj.cells (opA (o0, a.n, a.kind, o3, a.long, o5)) OPT (0, 0))], w.heap.size <= p.1 := fun p hp => by
  have := f2.size
  simp only [List.mem_cons, List.not_mem_nil, or_false] at hp
  rcases hp with rfl | rfl
  ·show w.heap.size <= rr; omega
  ·show w.heap.size <= r1; omega
 have hw32 : IntKind.wrap .i64 (IntKind.wrap .i32 a.n) = IntKind.wrap .i32 a.n := wi' _ (by have := qmx a.n; omega)
 have cellsR : ∀ {w' : World}, w'.heap[rr]? = some (Obj.cells #[.int .u32 a.n, .int .u32 a.kind, .int .u32 a.long] 42 (0, 0)) -> cellsAt w' ⟨rr, 0, none⟩ 0 (HL.mk [Cell.int .u32, Cell.int .u32, Cell.int .u32] (a.n, a.kind, a.long)) := fun hc => qaQ hc _ _ 0 rfl
 refine qad ?_
 refine qag (c := .ptr) (off := 0 + 1) h3d.cell (some ⟨pb, 0, none⟩) qla ?_
 refine Own.ld (c := .int .u32) ho3d 1 rfl a.n rfl ?_
 refine Own.ldA (cl := [Cell.int .u32, Cell.int .u32, Cell.int .u32]) ho3d 0 rfl (a.n, a.kind, a.long) rfl ?_
 rw [hw32]
 refine qpg h3d.pager fun w13 hp13 f13 => ?_
 have n13 : ∀ b ∈ F, b ∈ F \/ w3.drew.heap.size <= b := fun b hb => .inl hb
 have h13 := h3d.real hp13 (qnC M _ _ _ _) f13 n13
 have ho13 := (ho3d.frame f13 (fun b hb => .inl hb) (sepO hr2)).drew
 have h13d := h13.frame0 (Fr.refl [] w13).drew
 have f09 : Fr [] w w3.drew := (f2.trans f3).drew
 have fin : ∀ {x5 : RV} {w35 : World}, Pair w35 bb dbk pb FD X F x5 D (setRootM M (IntKind.wrap .i32 a.n) a.n a.kind a.long).2 D' (setRootM M' (IntKind.wrap .i32 a.n) a.n a.kind a.long).2 k m wv t -> Fr [bb] w13 w35 -> K ((setRootM M (IntKind.wrap .i32 a.n) a.n a.kind a.long).1 == (setRootM M' (IntKind.wrap .i32 a.n) a.n a.kind a.long).1) w35 := by
  intro x5 w35 h35 f35
  exact kk F x5 w35 h35 ((f09.mono fun b hb => nomatch hb).trans ((f13.mono fun b hb _ => List.mem_cons_of_mem _ hb).trans (f35.mono fun b hb _ => by rw [List.mem_singleton.1 hb]; simp))) fun b hb => .inl hb
 refine ⟨?_, ?_⟩
 ·refine qad ?_
  refine qaw (off := 0 + 2) h13d.cell (refV x) l64 bvx ?_
  refine Own.ld (c := .int .u32) ho13 1 rfl a.n rfl ?_
  refine Own.ldA (cl := [Cell.int .u32, Cell.int .u32, Cell.int .u32]) ho13 0 rfl (a.n, a.kind, a.long) rfl ?_
  rw [hw32]
  refine qkR (S := X ++ F) h13d.ref fun x5 w25 hp25 f25 => ?_
  have ho25 := ho13.frame0 f25
  have h25 := h13d.frame0 f25
  refine Own.newZ (Own.start [] w25) qbD fun r w27 e27 hoz => ?_
  have ho27 := ho25.frame0 hoz.fr
  have h27 := h25.frame0 hoz.fr
  refine qbk (cellsR (ho27.at (i := 0) rfl)) (ho27.cell 1 rfl rfl) (cellsX h27.cell) ?_
  have f1325 : Fr [] w13 w25 := (Fr.refl [] w13).drew.trans f25
  refine qa8 h13 (f1325.trans hoz.fr) (hoz.at (i := 0) rfl) (by rw [e27]; exact f1325.size) (hp25.frame (hoz.fr.mono fun b hb => nomatch hb) fun b hb => (List.mem_cons.1 hb).elim (fun e => .inr (by rw [e, e27]; exact Nat.le_refl _)) .inl) fun w35 h35 f35 => ?_
  exact fin h35 f35
 ·refine qad ?_
  refine qaw (off := 0 + 2) h13d.cell (refV x) l64 bvx ?_
  refine Own.ld (c := .int .u32) ho13 1 rfl a.n rfl ?_
  refine Own.ldA (cl := [Cell.int .u32, Cell.int .u32, Cell.int .u32]) ho13 0 rfl (a.n, a.kind, a.long) rfl ?_
  refine Own.newZ (Own.start [] w13.drew) qbD fun r w27 e27 hoz => ?_
  have ho27 := ho13.frame0 hoz.fr
  have h27 := h13d.frame0 hoz.fr
  refine qbk (cellsR (ho27.at (i := 0) rfl)) (ho27.cell 1 rfl rfl) (cellsX h27.cell) ?_
  have hrQ : RP (r :: (X ++ F)) w27 x D' M' := h13d.ref.frame (hoz.fr.mono fun b hb => nomatch hb) fun b hb => (List.mem_cons.1 hb).elim (fun e => .inr (by rw [e, e27]; exact Nat.le_refl _)) .inl
  rw [hw32]
  refine qkR (S := r :: (X ++ F)) hrQ fun x5 w25 hp25 f25 => ?_
  have f1325 : Fr [] w13 w25 := ((Fr.refl [] w13).drew.trans hoz.fr).trans f25
  refine qa8 h13 f1325 ((hoz.frame0 f25).at (i := 0) rfl) (by rw [e27]; exact ((Fr.refl [] w13).drew).size) hp25 fun w35 h35 f35 => ?_
  exact fin h35 f35
end
end Go.Proofs.YtmbcedengdoamaaGreatDoor
end
section
namespace Go.Proofs.YtmbcedengdoamaaGreatDoor
open Go.ChangeShapes Go.WideShapes Go.ChangeAt Go.RowKit Go.Pt
open Go
set_option linter.unusedVariables false
theorem qtU : fieldT Tryz.prog OPT 3 = some 22 := by kernel_rfl
theorem qtS : fieldT Tryz.prog OPT 5 = some 40 := by kernel_rfl
theorem qsA {H : Type} {enc : TypeId × Value -> H} {W : World} {base : Nat} {spare : Nat -> Bool} {held : Bool} {n : Nat} {s : Sl} {y : DataW H × List MemPlace} (h : DataW.trod enc Tryz.prog W base spare held n 40 [.slice s.a s.len s.cap] = some y) : ∃ l, Rds encLoss 2 [] W s l := by
 obtain ⟨l, g, _⟩ := qhi (P := Tryz.prog) (t := 40) (e := 136) (s := s) (k := 2) (encB := HL.mk [Cell.int .i64, Cell.int .i64]) (by kernel_rfl) (by kernel_rfl) (by decide) (qke (cs := [Cell.int .i64, Cell.int .i64]) (by kernel_rfl)) h
 exact ⟨l, g⟩
theorem qst {H : Type} {enc : TypeId × Value -> H} {W : World} {base : Nat} {spare : Nat -> Bool} {held : Bool} {x : OpC}
  (h : HFit opCs x /\ ∀ (i : Nat) v, (HL.mk opCs x)[i]? = some v -> ∃ u n y, fieldT Tryz.prog OPT i = some u /\ DataW.trod enc Tryz.prog W base spare held n u [v] = some y) : ∃ a, OpOk [] W x a := by
 obtain ⟨o0, o1, o2, o3, o4, o5⟩ := x
 obtain ⟨⟨q0, q1, q2, q3, q4, q5⟩, hf⟩ := h
 obtain ⟨u3, n3, y3, hu3, ht3⟩ := hf 3 (.slice o3.a o3.len o3.cap) rfl
 obtain rfl := Option.some.inj (qtU.symm.trans hu3)
 obtain ⟨u5, n5, y5, hu5, ht5⟩ := hf 5 (.slice o5.a o5.len o5.cap) rfl
 obtain rfl := Option.some.inj (qtS.symm.trans hu5)
 obtain ⟨l3, g3, e3⟩ := qhi (P := Tryz.prog) (t := 22) (e := 5) (s := o3) (k := 1) (encB := fun n => [Value.int .u8 n]) (by kernel_rfl) (by kernel_rfl) (by decide) (qrY (k := .u8) (by kernel_rfl)) ht3
 obtain ⟨l5, g5⟩ := qsA ht5
 exact ⟨⟨o0, o1, o2, l3, o4, l5⟩, rfl, rfl, rfl, g3, rfl, g5, qqN q0, qtE q1, qqN q2, qtl q4, fun z hz => qqN (e3 z hz)⟩
end Go.Proofs.YtmbcedengdoamaaGreatDoor
end
section
set_option linter.unusedVariables false
set_option linter.unusedSimpArgs false
namespace Go.Proofs.YtmbcedengdoamaaGreatDoor
open Go Go.Pt
attribute [local irreducible] ld ldA ldV fld fldA newZ st new idx idxS idxA slc slcS slcP mkS chk nn call callV inv run runQ runU join loop held ext rng undefer s2a nxt ent IntKind.wrap
theorem qsG {w : World} {n : Nat} {K : RDv × Int -> World -> Prop} (h8 : 8 <= n) (h4 : n <= 4096)
  (hk : ∀ d w', (∀ G : List Nat, (∀ b ∈ G, b < w.heap.size) -> RD G w' d (newM n)) -> Fr [] w w' -> K (d, 0) w') :
  call Tryz.prog 65 [.int .i64 n] [.agg dC, .one (.int .i64)] w K := by
 refine qiQ ?_
 unfold qdj
 refine Own.new' (Own.start [] w) fun r1 w1 e1 f1 ho => ?_
 refine qae (fun b w' => b = false /\ w' = w1) ?_ ?_
 ·refine cond_false (decide_eq_false (by omega)) ?_
  exact ⟨decide_eq_false (by omega), rfl⟩
 rintro b w2 ⟨rfl, rfl⟩
 refine cond_false rfl ?_
 refine Own.mk1 (Own.start [] w2) (by decide) (by decide) (by decide) (by decide) fun b3 w3 e3 ho3b => ?_
 have f3 := ho3b.fr
 have hb := ho3b.at (i := 0) rfl
 have hz : (512 : Int).toNat = 512 := rfl
 rw [hz] at hb ⊢
 rw [qgu] at hb
 have hrd := qc8 (S := []) (l := zs 512) hb (by simp)
 rw [qaC] at hrd
 have ho3 := ho.frame0 f3
 refine Own.newSt (Own.start [] w3) (cs' := rdC (⟨none, 0, 0⟩, ⟨none, 0, 0⟩, -1, false, 0)) rfl rfl (Nat.le_of_ble_eq_true rfl) fun r10 w4 e4 ho4' f4 => ?_
 have ho4 := Own.join0 ho3 ho4'
 have l4 := ho4.fr.size
 refine qaf (fun x w' => ∃ (i : Nat) (s : Sl) (B : List Nat), x = i /\ i <= n /\ Own [] w w' [(r10, .cells (rdC (s, ⟨none, 0, 0⟩, -1, false, 0)) RDT (0, 0)), (r1, .cells (rdC zD) RDT (0, 0))] /\ Fr [r10] w4 w' /\ Buf encBlkS 1 w' s (List.replicate i Blk.zero) B /\ ∀ b ∈ B, w4.heap.size <= b) (fun x _ => ((n : Int) - x).toNat)
  ⟨0, ⟨none, 0, 0⟩, [], rfl, by omega, ho4, .refl _ _, .nil _ _ _, by simp⟩ ?_
 rintro x w5 ⟨i, s, B, rfl, hi, ho5, f5, hb5, nB⟩ X hX
 refine qaa (fun hc => ?_) (fun hc => ?_)
 ·have hil : i < n := by have := of_decide_eq_true hc; omega
  refine Own.ld (c := .slice) ho5 0 rfl s rfl ?_
  have hrd5 : RdB [] w5 ⟨some ⟨b3, 0, none⟩, 512, 512⟩ (zs 512) := by
   have h34 := hrd.frame0 f4
   have l3 : b3 < w3.heap.size := qac hb
   have a : RdB [r10] w4 ⟨some ⟨b3, 0, none⟩, 512, 512⟩ (zs 512) := Rds.frame hrd (f4) fun b hb => by rw [List.mem_singleton.1 hb, e4]; exact .inr (Nat.le_refl _)
   exact Rds.weak (a.frame f5 fun b hb => .inl hb) fun b hb => nomatch hb
  refine qaX (S := []) (s := ⟨some ⟨b3, 0, none⟩, 512, 512⟩) hrd5 (IsB.zs _) ?_
  have l10 : r10 < w4.heap.size := qac (ho4'.at (i := 0) rfl)
  have l1 : r1 < w4.heap.size := qac (ho4.at (i := 1) rfl)
  obtain ⟨i9, hi9, hz9, hsz9, hby9⟩ := qsu
  refine Buf.push (e := 9) (x := Blk.zero) hb5 qcx (qk2 _) (by kernel_rfl) hi9 hz9 hsz9 rfl rfl (by rw [hby9, List.length_replicate]; omega) (by rw [List.length_replicate]; omega) fun s7 B7 w7 b7 f57 n7 => ?_
  have ho7 := ho5.frame f57 (fun b hb => .inr (Nat.le_trans l4 (nB b hb))) (fun p hp hb => by
   have := nB _ hb
   simp only [List.mem_cons, List.not_mem_nil, or_false] at hp
   rcases hp with rfl | rfl
   ·exact absurd this (Nat.not_le.2 l10)
   ·exact absurd this (Nat.not_le.2 l1))
  refine Own.st' ho7 0 rfl (rdC (s7, ⟨none, 0, 0⟩, -1, false, 0)) rfl rfl (Nat.le_of_ble_eq_true rfl) fun w8 ho8 f8 => ?_
  have nB7 : ∀ b ∈ B7, w4.heap.size <= b := fun b hb => by
   rcases n7 b hb with h | h
   ·exact nB b h
   ·have := f5.size; omega
  rw [wi' _ (by omega)]
  refine hX _ _ ⟨i + 1, s7, B7, by simp, by omega, ho8, ?_, ?_, nB7⟩ (by omega)
  ·exact (f5.trans' f57 fun b hb => .inr (nB b hb)).trans f8
  ·rw [List.replicate_succ']
   exact Buf.apart b7 nB7 l10 f8
 ·have hie : i = n := by have := of_decide_eq_false hc; omega
  subst hie
  refine Own.ldD ho5 0 rfl ?_
  refine Own.stD' (d := zD) ho5 1 rfl fun w6 ho6 f6 => ?_
  refine Own.ldD ho6 1 rfl ?_
  have l1 : r1 < w4.heap.size := qac (ho4.at (i := 1) rfl)
  have b6 := Buf.apart hb5 nB l1 f6
  refine hk (s, ⟨none, 0, 0⟩, -1, false, 0) w6 (fun G hG => ⟨Buf.rds qcx b6 fun b hb hm => by have := nB b hb; have := hG b hm; omega, .nil _ _ _ _, rfl, rfl, rfl⟩) ho6.fr
end Go.Proofs.YtmbcedengdoamaaGreatDoor
end
section
set_option linter.unusedVariables false
set_option maxRecDepth 100000
namespace Go.Proofs.YtmbcedengdoamaaGreatDoor
open Go Go.Pt
def qcG (blocks : Int) (K : ((Option Addr) × (Option Addr)) -> World -> Prop) (w : World) : Prop := call Tryz.prog 38 ([.int .i64 blocks]) ([.one .ptr, .one (.int .i64)]) w <| fun (t_1 : Option Addr × Int) w_2 => join (Bool) (fun X_3 => cond (!t_1.snd == 0) (X_3 true w_2) (cond (Option.isNone t_1.fst) (X_3 true w_2) (call Tryz.prog 39 ([.pointer t_1.fst]) ([.one (.int .i64)]) w_2 <| fun (x_4 : Int) w_5 => X_3 (!x_4 == 0) w_5))) <| fun (b_6 : Bool) w_7 => cond b_6 (K ((none, none)) w_7) (call Tryz.prog 24 ([.pointer t_1.fst]) ([.one .ptr, .one (.int .i64)]) w_7 <| fun (t_8 : Option Addr × Int) w_9 => cond (!t_8.snd == 0) (K ((none, none)) w_9) (K ((t_1.fst, t_8.fst)) w_9))
def qeN : List Ann := [.n, .n, .n, .j [(22, .one .bool)], .n, .n, .n, .n, .n, .n]
theorem qid {blocks : Int} {w : World} {K : ((Option Addr) × (Option Addr)) -> World -> Prop} (hF : qcG blocks K w) : call Tryz.prog 8 [.int .i64 blocks] [.one .ptr, .one .ptr] w K := qab (an := qeN) Tryz.func8 (by kernel_rfl) ((show fnPt (std Tryz.prog) Tryz.prog Tryz.f8 qeN [.one .ptr, .one .ptr] [.int .i64 blocks] K w = qcG blocks K w by kernel_rfl).mpr hF)
def qco  (K : Bool -> World -> Prop) (w : World) : Prop := call Tryz.prog 8 ([.int .i64 8]) ([.one .ptr, .one .ptr]) w <| fun (t_1 : Option Addr × Option Addr) w_2 => join (Bool) (fun X_3 => cond (Option.isNone t_1.fst) (X_3 true w_2) (cond (Option.isNone t_1.snd) (X_3 true w_2) (call Tryz.prog 32 ([.pointer t_1.snd]) ([.one .slice]) w_2 <| fun (s_4 : Sl) w_5 => new (Obj.cells #[.int .u32 2] 29) w_5 <| fun r_6 w_7 => call Tryz.prog 31 ([.slice s_4.a s_4.len s_4.cap, .slice (some ⟨r_6, 0, none⟩) 1 1]) ([.one .bool]) w_7 <| fun (b_8 : Bool) w_9 => cond (!b_8) (X_3 true w_9) (call Tryz.prog 9 ([.pointer t_1.snd]) ([.one .slice]) w_9 <| fun (s_10 : Sl) w_11 => new (Obj.cells #[.int .u32 3, .int .u32 4, .int .u32 5, .int .u32 6, .int .u32 7] 29) w_11 <| fun r_12 w_13 => call Tryz.prog 31 ([.slice s_10.a s_10.len s_10.cap, .slice (some ⟨r_12, 0, none⟩) 5 5]) ([.one .bool]) w_13 <| fun (b_14 : Bool) w_15 => X_3 (!b_14) w_15)))) <| fun (b_16 : Bool) w_17 => cond b_16 (K false w_17) (new (Obj.cells #[.int .u8 120] 5) w_17 <| fun r_18 w_19 => run [.one .slice] ((convert 22 22 (.slice (some ⟨r_18, 0, none⟩) 1 1)).run Tryz.prog w_19) <| fun (s_20 : Sl) w_21 => call Tryz.prog 10 ([.pointer t_1.snd, .int .u8 3, .slice s_20.a s_20.len s_20.cap]) ([.one (.int .u32), .one (.int .i64)]) w_21 <| fun (t_22 : Int × Int) w_23 => call Tryz.prog 20 ([.pointer t_1.snd]) ([.one (.int .i64)]) w_23 <| fun (x_24 : Int) w_25 => cond (t_22.snd == 0) (cond (t_22.fst == 3) (cond (x_24 == 0) (call Tryz.prog 25 ([.pointer t_1.snd]) ([.one (.int .u64)]) w_25 <| fun (x_26 : Int) w_27 => cond (x_26 == 2) (call Tryz.prog 32 ([.pointer t_1.snd]) ([.one .slice]) w_27 <| fun (s_28 : Sl) w_29 => new (Obj.cells #[.int .u32 4] 29) w_29 <| fun r_30 w_31 => call Tryz.prog 31 ([.slice s_28.a s_28.len s_28.cap, .slice (some ⟨r_30, 0, none⟩) 1 1]) ([.one .bool]) w_31 <| fun (b_32 : Bool) w_33 => cond b_32 (call Tryz.prog 9 ([.pointer t_1.snd]) ([.one .slice]) w_33 <| fun (s_34 : Sl) w_35 => new (Obj.cells #[.int .u32 2, .int .u32 5, .int .u32 6, .int .u32 7] 29) w_35 <| fun r_36 w_37 => call Tryz.prog 31 ([.slice s_34.a s_34.len s_34.cap, .slice (some ⟨r_36, 0, none⟩) 4 4]) ([.one .bool]) w_37 <| fun (b_38 : Bool) w_39 => K b_38 w_39) (K false w_33)) (K false w_27)) (K false w_25)) (K false w_25)) (K false w_25))
def qes : List Ann := [.n, .n, .n, .j [(29, .one .bool)], .n, .n, .n, .n]
theorem qhx  {w : World} {K : Bool -> World -> Prop} (hF : qco  K w) : call Tryz.prog 12 [] [.one .bool] w K := qab (an := qes) Tryz.func12 (by kernel_rfl) ((show fnPt (std Tryz.prog) Tryz.prog Tryz.f12 qes [.one .bool] [] K w = qco  K w by kernel_rfl).mpr hF)
end Go.Proofs.YtmbcedengdoamaaGreatDoor
end
section
set_option linter.unusedVariables false
set_option linter.unusedSimpArgs false
namespace Go.Proofs.YtmbcedengdoamaaGreatDoor
open Go Go.Pt
attribute [local irreducible] ld ldA ldV fld fldA newZ st new idx idxS idxA slc slcS slcP mkS chk nn call callV inv run runQ runU join loop held ext rng undefer s2a nxt ent IntKind.wrap
theorem Lim.new {n : Nat} (h : n <= 4096) : Lim (newM n) 0 := ⟨qsM h, by simp [newM], by simp [newM]⟩
def pgs (n : Nat) : List Int := (allV n).take (needP (allV n).length)
def nums (n : Nat) : List Int := (allV n).drop (needP (allV n).length)
def madeM (n : Nat) : PgM := begunM (fmtSup n) (pgs n) (nums n) 1 false (nums n)
theorem qpv {n : Nat} (h8 : 8 <= n) (h4 : n <= 4096) : (madeM n).Wf := by
 have e : (fmtSup n).2.getD 0 0 = n := by show IntKind.wrap .u32 (n : Int) = _; exact qaI _ (by omega)
 exact qlj (by rw [e]; exact qiu) (by rw [e]; omega) (qht h8 h4).u32
structure Made (D : DiskM) (n : Nat) : Prop where
 quiet : Quiet D
 size : D.size = n
 waits : D.waits = []
 opens : Opens D (fmtSup n) (pgs n) (nums n)
 fmt : formatM (newM n) = (D, 0)
theorem qnU {w : World} {n : Nat} {K : Option Addr × Option Addr -> World -> Prop} (X : List Nat) (hXl : ∀ b ∈ X, b < w.heap.size) (hv : Hv w) (h8 : 8 <= n) (h4 : n <= 4096)
  (hk : ∀ dbk pb FD F D w', DiskAt w' dbk FD D -> Lim D 5000 -> PagerAt w' (FD ++ X) pb (dbOf dbk (madeM n)) F (madeM n) -> Made D n -> Fr [] w w' -> (∀ b ∈ FD ++ F, w.heap.size <= b) -> K (some ⟨dbk, 0, none⟩, some ⟨pb, 0, none⟩) w') :
  call Tryz.prog 8 [.int .i64 n] [.one .ptr, .one .ptr] w K := by
 refine qid ?_
 unfold qcG
 refine qsJ (fun h => by omega) fun _ _ dbk FD w1 d1 f1 n1 => ?_
 rw [Int.toNat_natCast] at d1
 obtain ⟨D', e1, q1, s1, wt1, o1⟩ := qnL (qqx n) (qrH n) h8 h4
 have hv1 := hv.frame0 f1
 have hg : HG ∉ FD := fun hm => by have := n1 _ hm; have := hv.lt; omega
 have hsl : (newM n).safe.length = n := by simp [newM]
 refine qae (fun b w' => b = false /\ ∃ F', DS dbk w1 FD w' F' D' (0 + 5000)) ?_ ?_
 ·refine cond_false rfl (cond_false rfl ?_)
  refine qp0 d1 (Lim.new h4) (by decide) (by omega) hv1 hg fun w' F' d' => ?_
  rw [e1] at d' ⊢
  exact ⟨rfl, F', d'⟩
 rintro b w2 ⟨rfl, F2, d2⟩
 refine cond_false rfl ?_
 have hnew : ∀ b ∈ F2, w.heap.size <= b := fun b hb => by
  rcases d2.nw b hb with h | h
  ·exact n1 b h
  ·exact Nat.le_trans f1.size h
 have hop := o1.open
 refine qno (F2 ++ X) (fun b hb => (List.mem_append.1 hb).elim (d2.at_.lt b) fun hb => Nat.lt_of_lt_of_le (hXl b hb) (Nat.le_trans f1.size d2.fr.size)) d2.at_ d2.lim.ok (d2.hv hv1 hg).1 (fun h => by rw [hop] at h; cases h) fun pb F M w3 hM hp f3 n3 => ?_
 rw [hop] at hM
 cases hM
 refine cond_false rfl ?_
 refine hk dbk pb F2 F D' w3 (d2.at_.frame0 f3) d2.lim hp ⟨q1, s1, wt1, o1, e1⟩ ((f1.trans' d2.fr fun b hb => .inr (n1 b hb)).trans' f3 (by simp)) fun b hb => ?_
 rcases List.mem_append.1 hb with hb | hb
 ·exact hnew b hb
 ·exact Nat.le_trans (Nat.le_trans f1.size d2.fr.size) (n3 b hb)
theorem qsK {w : World} {n : Nat} {K : Option Addr × Option Addr -> World -> Prop} (hv : Hv w) (h8 : 8 <= n) (h4 : n <= 4096)
  (hk : ∀ dbk pb FD F D w', Both w' dbk pb FD F D (madeM n) 5000 -> Made D n -> Fr [] w w' -> (∀ b ∈ FD ++ F, w.heap.size <= b) -> K (some ⟨dbk, 0, none⟩, some ⟨pb, 0, none⟩) w') :
  call Tryz.prog 8 [.int .i64 n] [.one .ptr, .one .ptr] w K :=
 qnU [] (fun b hb => nomatch hb) hv h8 h4 fun dbk pb FD F D w' h1 h2 h3 => hk dbk pb FD F D w' ⟨h1, h2, h3.weakX fun b hb => List.mem_append_left _ hb⟩
theorem qmv {S : List Nat} {w : World} {b : Nat} {T : TypeId} {fr : Nat × Nat} {l : List Int} (hb : w.heap[b]? = some (.cells (l.map (Value.int .u32)).toArray T fr)) (hS : b ∉ S) : Rd S w ⟨some ⟨b, 0, none⟩, l.length, l.length⟩ l := by
 refine ⟨rfl, Nat.le_refl _, .inr ⟨b, 0, _, T, fr, rfl, hb, hS, fun i x hx => ?_⟩⟩
 have hi := (List.getElem?_eq_some_iff.1 hx).1
 rw [Nat.zero_add, Nat.mul_one]
 apply List.ext_getElem?
 intro j
 rw [List.getElem?_take, List.getElem?_drop]
 match j with
 | 0 => simp [hx]
 | j + 1 => simp
theorem qsO {w : World} {C : Array Value} {n c : Nat} {K : Sl -> World -> Prop} (hk : ∀ b w', b = w.heap.size -> Fr [] w w' -> w'.heap[b]? = some (.cells C 5 (C.size, C.size + 1)) -> K ⟨some ⟨b, 0, none⟩, n, c⟩ w') :
  Pt.new (.cells C 5 (0, 0)) w fun r w1 => Pt.run [Ty1.one Cell.slice] ((convert 22 22 (.slice (some ⟨r, 0, none⟩) n c)).run Tryz.prog w1) K := by
 refine Pt.qjP ?_
 refine qeq ⟨some ⟨w.heap.size, 0, none⟩, n, c⟩ _ (Lib.run_convert_bytes_const (P := Tryz.prog) w 22 5 C n c (by kernel_rfl) (by kernel_rfl)) ?_
 exact hk _ _ rfl ((Fr.refl [] w).alloc _) (by rw [qcj, if_pos rfl])
theorem qtY : pgs 8 = [2] := by decide
theorem qtH : nums 8 = [3, 4, 5, 6, 7] := by decide
theorem qiM {w : World} {K : Bool -> World -> Prop} (hv : Hv w) (hk : ∀ w', Fr [] w w' -> K true w') :
  call Tryz.prog 12 [] [.one .bool] w K := by
 refine qhx ?_
 unfold qco
 refine qsK (n := 8) hv (by decide) (by decide) fun dbk pb FD F D w1 hb hm f1 n1 => ?_
 have hM : madeM 8 = begunM (fmtSup 8) [2] [3, 4, 5, 6, 7] 1 false [3, 4, 5, 6, 7] := by rw [madeM, qtY, qtH]
 have hfree : (madeM 8).free = [3, 4, 5, 6, 7] := by rw [hM]; rfl
 have hlists : (madeM 8).lists = [2] := by rw [hM]; rfl
 refine qae (fun b w' => b = false /\ Fr [] w1 w') ?_ ?_
 ·refine cond_false rfl (cond_false rfl ?_)
  refine qjO hb.pager (by rw [hlists]; decide) fun s2 B2 w2 b2 f2 n2 => ?_
  rw [hlists] at b2
  refine Own.new' (Own.start [] w2) fun r3 w3 e3 f3 ho3 => ?_
  refine qfd (S := []) (S' := []) (t := ⟨some ⟨r3, 0, none⟩, 1, 1⟩) ((b2.frame0 f3).rds qas (by simp)) (qmv (l := [2]) (ho3.at (i := 0) rfl) (by simp)) (by decide) fun w4 s4 => ?_
  refine cond_false rfl ?_
  have f14 := (f2.trans f3).trans (.of_same s4)
  refine qlk (hb.pager.frame0 f14) (by rw [hfree]; decide) fun s5 w5 t5 f5 => ?_
  rw [hfree] at t5
  obtain ⟨B5, b5, n5⟩ := qgT t5
  refine Own.new' (Own.start [] w5) fun r6 w6 e6 f6 ho6 => ?_
  refine qfd (S := []) (S' := []) (t := ⟨some ⟨r6, 0, none⟩, 5, 5⟩) ((b5.frame0 f6).rds qas (by simp)) (qmv (l := [3, 4, 5, 6, 7]) (ho6.at (i := 0) rfl) (by simp)) (by decide) fun w7 s7 => ?_
  exact ⟨rfl, ((f14.trans f5).trans f6).trans (.of_same s7)⟩
 rintro b w2 ⟨rfl, f2⟩
 refine cond_false rfl ?_
 have hW := qpv (n := 8) (by decide) (by decide)
 refine qsO fun r3 w3 e3 f3 ho3 => ?_
 have hb3 := hb.frame0 (f2.trans f3)
 have hrd : RdB (FD ++ F) w3 ⟨some ⟨r3, 0, none⟩, 1, 1⟩ [120] := by
  have := qeY (S := FD ++ F) (o := 0) (n := 1) (cap := 1) (L := [120]) ho3 (by decide) (by decide) (fun hm => by
   rcases List.mem_append.1 hm with h | h
   ·have := hb.disk.lt r3 h; have := f2.size; omega
   ·have := hb.pager.lt r3 h; have := f2.size; omega)
  exact this
 have hIsB : IsB [120] := fun x hx => by simp at hx; subst hx; decide
 have hmk : makeV (madeM 8) 3 [120] = ((3, 0), { madeM 8 with free := [4, 5, 6, 7], fresh := setL 3 (3, [120]) (madeM 8).fresh }) := by
  rw [makeV, if_neg (by rw [hM]; decide), if_neg (by decide), hfree]
 refine qoO hb3.pager hrd (by decide) (by rw [hfree]; decide) fun F4 w4 hp4 f4 n4 => ?_
 have hW2 := (qpF (kind := 3) (body := [120]) hW (by decide) hIsB).1
 rw [hmk] at hp4 hW2 ⊢
 have hM2 : ({ madeM 8 with free := [4, 5, 6, 7], fresh := setL 3 (3, [120]) (madeM 8).fresh } : PgM) = ⟨fmtSup 8, [2], [3, 4, 5, 6, 7], 1, false, [4, 5, 6, 7], [], [(3, 3, [120])], (fmtSup 8).2.drop 3⟩ := by rw [hM]; rfl
 rw [hM2] at hp4 hW2
 generalize hMM : (⟨fmtSup 8, [2], [3, 4, 5, 6, 7], 1, false, [4, 5, 6, 7], [], [(3, 3, [120])], (fmtSup 8).2.drop 3⟩ : PgM) = M2 at hp4 hW2
 have hsepF : ∀ b ∈ F, b ∉ FD := fun b hb1 hb2 => hb.pager.sep b hb2 hb1
 have hd4 : DiskAt w4 dbk FD D := hb3.disk.frame f4 fun b hbf hbF => hsepF b hbF hbf
 have hB4 : Both w4 dbk pb FD F4 D M2 5000 := ⟨hd4, hb.lim, by rw [dbOf, if_neg (by rw [<- hMM]; decide)]; exact hp4⟩
 have hFw : ∀ b ∈ FD ++ F, b ∉ ([] : List Nat) /\ w.heap.size <= b := fun b hb => ⟨by simp, n1 b hb⟩
 have hg : HG ∉ FD := fun hm => by have := n1 _ (List.mem_append_left _ hm); have := hv.lt; omega
 have hgF : HG ∉ F := fun hm => by have := n1 _ (List.mem_append_right _ hm); have := hv.lt; omega
 have f03 := (f1.trans f2).trans f3
 have hv4 : Hv w4 := (hv.frame0 f03).frame f4 hgF
 have hplan : planM M2 = some ([4], [2, 5, 6, 7]) := by rw [<- hMM]; decide
 have hsup : M2.sup = fmtSup 8 := by rw [<- hMM]
 have hns := qrQ hW2 hplan (by rw [<- hMM]; rfl) (by rw [hsup]; exact ⟨by decide, by decide⟩)
 have hfl := hm.quiet.flushed hW2 (by rw [hsup]; exact hm.opens.blocks) hm.opens.size.1 hplan hns.1
 have hcm : commitM D M2 = (((flushM D M2.fresh [4] [2, 5, 6, 7] (nextS M2 [4] [2, 5, 6, 7])).1, begunM (nextS M2 [4] [2, 5, 6, 7]) [4] [2, 5, 6, 7] (M2.turn + 1) false [2, 5, 6, 7]), 0) := by
  rw [commitM, if_neg (by rw [<- hMM]; decide), if_neg (by rw [<- hMM]; simp), hplan]
  exact if_neg (by rw [hfl.1]; simp)
 refine qp9 hB4 hW2 (by decide) (by rw [<- hMM]; decide) hv4 hg fun FD5 F5 w5 hB5 t5 => ?_
 rw [hcm] at hB5 ⊢
 refine cond_true rfl (cond_true rfl (cond_true rfl ?_))
 refine qpS hB5.pager ?_
 have hseq : (nextS M2 [4] [2, 5, 6, 7]).1 = 2 := by rw [hns.2, hsup]; rfl
 refine cond_true (by show ((nextS M2 [4] [2, 5, 6, 7]).1 == 2) = true; rw [hseq]; rfl) ?_
 have f05 : Fr [] w w5 := (f03.trans' f4 fun b hb => .inr (n1 b (List.mem_append_right _ hb))).trans' t5.1 fun b hb => by
  rcases List.mem_append.1 hb with h | h
  ·exact .inr (n1 b (List.mem_append_left _ h))
  ·rcases n4 b h with h | h
   ·exact .inr (n1 b (List.mem_append_right _ h))
   ·exact .inr (Nat.le_trans f03.size h)
 refine qjO hB5.pager (by show [(4 : Int)].length <= _; decide) fun s6 B6 w6 b6 f6 n6 => ?_
 refine Own.new' (Own.start [] w6) fun r7 w7 e7 f7 ho7 => ?_
 refine qfd (S := []) (S' := []) (l := [4]) (t := ⟨some ⟨r7, 0, none⟩, 1, 1⟩) ((b6.frame0 f7).rds qas (by simp)) (qmv (l := [4]) (ho7.at (i := 0) rfl) (by simp)) (by decide) fun w8 s8 => ?_
 refine cond_true rfl ?_
 have f58 := (f6.trans f7).trans (.of_same s8)
 refine qlk (hB5.pager.frame0 f58) (by show [(2 : Int), 5, 6, 7].length <= _; decide) fun s9 w9 t9 f9 => ?_
 obtain ⟨B9, b9, n9⟩ := qgT t9
 refine Own.new' (Own.start [] w9) fun r10 w10 e10 f10 ho10 => ?_
 refine qfd (S := []) (S' := []) (l := [2, 5, 6, 7]) (t := ⟨some ⟨r10, 0, none⟩, 4, 4⟩) ((b9.frame0 f10).rds qas (by simp)) (qmv (l := [2, 5, 6, 7]) (ho10.at (i := 0) rfl) (by simp)) (by decide) fun w11 s11 => ?_
 exact hk w11 (((((f05.trans f58).trans f9).trans f10).trans (.of_same s11)))
section
structure Sim (M M' : PgM) : Prop where
 sup : M'.sup = M.sup
 lists : M'.lists = M.lists
 named : M'.named = M.named
 over : M'.over = M.over
 free : M'.free = M.free
 deferred : M'.deferred = M.deferred
 roots : M'.roots = M.roots
 perm : M'.fresh.Perm M.fresh
 sorted : (M'.fresh.map (·.1)).Pairwise (· < ·)
abbrev Fsh := List (Int × Int × List Int)
theorem qec {L L' : Fsh} (hp : L'.Perm L) (hn : (L.map (·.1)).Nodup) (n : Int) : (look n L').map (·.2) = (look n L).map (·.2) := by
 have hn' : (L'.map (·.1)).Nodup := (hp.map (·.1)).nodup_iff.2 hn
 cases h : look n L with
 | some q =>
  obtain ⟨i, hi⟩ := qfo (e := (n, q.2)) hn' (hp.mem_iff.2 (qaJ h).2)
  rw [hi]; rfl
 | none =>
  cases h' : look n L' with
  | none => rfl
  | some q =>
   have := qdk.1 h
   exact absurd (List.mem_map_of_mem (f := (·.1)) (hp.mem_iff.1 (qaJ h').2)) this
theorem qpd {L L' : Fsh} (hp : L'.Perm L) (hn : (L.map (·.1)).Nodup) (n : Int) : (look n L').isNone = (look n L).isNone := by
 have := qec hp hn n
 cases h : look n L <;> cases h' : look n L' <;> rw [h, h'] at this <;> simp_all
theorem qnN {L : Fsh} {n : Int} {q : Nat × Int × List Int} (h : look n L = some q) : L.Perm ((n, q.2) :: delL n L) := by
 have h1 := (qaJ h).1
 rw [delL, h]
 dsimp only
 have hi := (List.getElem?_eq_some_iff.1 h1).1
 have he := (List.getElem?_eq_some_iff.1 h1).2
 rw [List.eraseIdx_eq_take_drop_succ]
 have hs : L = L.take q.1 ++ (n, q.2) :: L.drop (q.1 + 1) := by rw [<- he, <- List.drop_eq_getElem_cons hi, List.take_append_drop]
 have hp : (L.take q.1 ++ (n, q.2) :: L.drop (q.1 + 1)).Perm ((n, q.2) :: (L.take q.1 ++ L.drop (q.1 + 1))) := List.perm_middle
 rw [<- hs] at hp
 exact hp
theorem qog {L : Fsh} {n : Int} {v : Int × List Int} {q : Nat × Int × List Int} (h : look n L = some q) : (setL n v L).Perm ((n, v) :: delL n L) := by
 have h1 := (qaJ h).1
 rw [delL, setL, h]
 dsimp only
 have hi := (List.getElem?_eq_some_iff.1 h1).1
 rw [List.eraseIdx_eq_take_drop_succ, List.set_eq_take_append_cons_drop, if_pos hi]
 exact List.perm_middle
theorem qni {L L' : Fsh} (hp : L'.Perm L) (hn : (L.map (·.1)).Nodup) {n : Int} : (delL n L').Perm (delL n L) := by
 have hl := qec hp hn n
 cases h : look n L with
 | none =>
  cases h' : look n L' with
  | none => rw [delL, delL, h, h']; exact hp
  | some q => rw [h, h'] at hl; cases hl
 | some q =>
  cases h' : look n L' with
  | none => rw [h, h'] at hl; cases hl
  | some q' =>
   rw [h, h'] at hl
   have hq : q'.2 = q.2 := Option.some.inj hl
   have a := qnN h
   have b := qnN h'
   rw [hq] at b
   exact List.Perm.cons_inv (b.symm.trans (hp.trans a))
theorem qrD {L L' : Fsh} (hp : L'.Perm L) (hn : (L.map (·.1)).Nodup) {n : Int} {v : Int × List Int} : (setL n v L').Perm (setL n v L) := by
 have hl := qec hp hn n
 cases h : look n L with
 | none =>
  cases h' : look n L' with
  | none => rw [setL, setL, h, h']; exact hp.append_right _
  | some q => rw [h, h'] at hl; cases hl
 | some q =>
  cases h' : look n L' with
  | none => rw [h, h'] at hl; cases hl
  | some q' => exact (qog h').trans (((qni hp hn).cons _).trans (qog h).symm)
theorem qjV {n : Int} {v : Int × List Int} : ∀ L : Fsh, (insF n v L).Perm ((n, v) :: L)
 | [] => .refl _
 | a :: L => by
  rw [insF]
  split
  ·exact .refl _
  ·exact ((qjV L).cons a).trans (.swap _ _ _)
theorem qkF {n : Int} {v : Int × List Int} : ∀ {L : Fsh}, (L.map (·.1)).Pairwise (· < ·) -> n ∉ L.map (·.1) -> ((insF n v L).map (·.1)).Pairwise (· < ·)
 | [], _, _ => by simp [insF]
 | a :: L, h, hn => by
  rw [List.map_cons, List.pairwise_cons] at h
  rw [List.map_cons, List.mem_cons, not_or] at hn
  rw [insF]
  split
  ·rename_i hgt
   rw [List.map_cons, List.map_cons, List.pairwise_cons, List.pairwise_cons]
   refine ⟨fun x hx => ?_, h⟩
   rcases List.mem_cons.1 hx with rfl | hx
   ·exact hgt
   ·have := h.1 x hx; show n < x; omega
  ·rename_i hgt
   rw [List.map_cons, List.pairwise_cons]
   refine ⟨fun x hx => ?_, qkF h.2 hn.2⟩
   have := ((qjV (n := n) (v := v) L).map (·.1)).mem_iff.1 hx
   rw [List.map_cons, List.mem_cons] at this
   rcases this with e | hx
   ·have h1 := hn.1; have e : x = n := e; show a.1 < x; omega
   ·exact h.1 x hx
section
variable {M M' : PgM}
theorem Sim.used (h : Sim M M') (hW : M.Wf) (n : Int) : usedV M' n = usedV M n := by
 rw [usedV, usedV, h.sup, h.lists, h.free, h.deferred, qpd h.perm hW.keysNodup]
theorem Sim.make (h : Sim M M') (hW : M.Wf) (kd : Int) (l : List Int) : (makeR M' kd l).1 = (makeV M kd l).1 /\ Sim (makeV M kd l).2 (makeR M' kd l).2 := by
 unfold makeR makeV
 rw [h.over, h.free]
 split
 ·exact ⟨rfl, h⟩
 split
 ·exact ⟨rfl, h⟩
 cases hf : M.free with
 | nil => exact ⟨rfl, h⟩
 | cons n r =>
  have hn : n ∉ M.fresh.map (·.1) := fun hm => by
   have := (List.nodup_append.1 hW.nodup).2.2 n (by rw [hf]; simp) n (List.mem_append_right _ (List.mem_append_right _ hm))
   exact this rfl
  have hn' : n ∉ M'.fresh.map (·.1) := fun hm => hn ((h.perm.map (·.1)).mem_iff.1 hm)
  refine ⟨rfl, ⟨h.sup, h.lists, h.named, rfl, rfl, h.deferred, h.roots, ?_, qkF h.sorted hn'⟩⟩
  show (insF n (kd, l) M'.fresh).Perm (setL n (kd, l) M.fresh)
  rw [qoJ hn]
  exact (qjV _).trans ((h.perm.cons _).trans (List.perm_append_comm (l₁ := [(n, kd, l)])))
theorem Sim.put (h : Sim M M') (hW : M.Wf) (n kd : Int) (l : List Int) : (putV M' n kd l).1 = (putV M n kd l).1 /\ Sim (putV M n kd l).2 (putV M' n kd l).2 := by
 have hl := qec h.perm hW.keysNodup n
 unfold putV
 rw [h.over]
 split
 ·exact ⟨rfl, h⟩
 cases h1 : look n M.fresh with
 | none =>
  cases h2 : look n M'.fresh with
  | none => exact ⟨rfl, h⟩
  | some q => rw [h1, h2] at hl; cases hl
 | some q =>
  cases h2 : look n M'.fresh with
  | none => rw [h1, h2] at hl; cases hl
  | some q' =>
   dsimp only
   split
   ·exact ⟨rfl, h⟩
   ·refine ⟨rfl, ⟨h.sup, h.lists, h.named, rfl, h.free, h.deferred, h.roots, qrD h.perm hW.keysNodup, ?_⟩⟩
    show ((setL n (kd, l) M'.fresh).map (·.1)).Pairwise (· < ·)
    rw [qne (List.mem_map_of_mem (f := (·.1)) (qaJ h2).2)]
    exact h.sorted
theorem Sim.drop (h : Sim M M') (hW : M.Wf) (n : Int) : (dropV M' n).1 = (dropV M n).1 /\ Sim (dropV M n).2 (dropV M' n).2 := by
 have hl := qec h.perm hW.keysNodup n
 have hu := h.used hW n
 unfold dropV
 rw [h.over]
 split
 ·exact ⟨rfl, h⟩
 cases h1 : look n M.fresh with
 | none =>
  cases h2 : look n M'.fresh with
  | none =>
   dsimp only
   rw [hu]
   split
   ·exact ⟨rfl, ⟨h.sup, h.lists, h.named, rfl, h.free, by show ins n M'.deferred = ins n M.deferred; rw [h.deferred], h.roots, h.perm, h.sorted⟩⟩
   ·exact ⟨rfl, h⟩
  | some q => rw [h1, h2] at hl; cases hl
 | some q =>
  cases h2 : look n M'.fresh with
  | none => rw [h1, h2] at hl; cases hl
  | some q' =>
   refine ⟨rfl, ⟨h.sup, h.lists, h.named, rfl, by show ins n M'.free = ins n M.free; rw [h.free], h.deferred, h.roots, qni h.perm hW.keysNodup, ?_⟩⟩
   show ((delL n M'.fresh).map (·.1)).Pairwise (· < ·)
   rw [delL, h2]
   dsimp only
   exact h.sorted.sublist ((List.eraseIdx_sublist _ _).map _)
theorem Sim.setRoot (h : Sim M M') (t a b c : Int) : (setRootM M' t a b c).1 = (setRootM M t a b c).1 /\ Sim (setRootM M t a b c).2 (setRootM M' t a b c).2 := by
 unfold setRootM
 rw [h.over, h.roots]
 split
 ·exact ⟨rfl, h⟩
 split
 ·exact ⟨rfl, h⟩
 ·exact ⟨rfl, ⟨h.sup, h.lists, h.named, rfl, h.free, h.deferred, rfl, h.perm, h.sorted⟩⟩
theorem Sim.read (h : Sim M M') (hW : M.Wf) (D : DiskM) (n : Int) : pagerReadM D M' n = pagerReadM D M n := by
 have hl := qec h.perm hW.keysNodup n
 unfold pagerReadM
 rw [h.over, h.used hW]
 split
 ·rfl
 cases h1 : look n M.fresh with
 | none =>
  cases h2 : look n M'.fresh with
  | none => rfl
  | some q => rw [h1, h2] at hl; cases hl
 | some q =>
  cases h2 : look n M'.fresh with
  | none => rw [h1, h2] at hl; cases hl
  | some q' =>
   rw [h1, h2] at hl
   have hq : q'.2 = q.2 := Option.some.inj hl
   dsimp only
   rw [hq]
theorem Sim.freshR (h : Sim M M') (hW : M.Wf) : freshR M'.fresh = freshW M.fresh := by
 have hk : M'.fresh.map (·.1) = insAll (M.fresh.map (·.1)) := qdx (h.perm.map _) (qqC h.sorted) hW.keysNodup
 rw [freshW, <- hk, List.map_map, Go.Proofs.YtmbcedengdoamaaGreatDoor.freshR]
 refine List.map_congr_left fun e he => ?_
 obtain ⟨i, hi⟩ := qfo hW.keysNodup (h.perm.mem_iff.1 he)
 show (e.1, sealV e.1 e.2.1 e.2.2) = (e.1, sealV e.1 (leafOf M.fresh e.1).1 (leafOf M.fresh e.1).2)
 rw [leafOf, hi]
theorem Sim.commit (h : Sim M M') (hW : M.Wf) (D : DiskM) : (commitR D M').1.1 = (commitM D M).1.1 /\ (commitR D M').2 = (commitM D M).2 /\ Sim (commitM D M).1.2 (commitR D M').1.2 := by
 have hp : planM M' = planM M := by rw [planM, planM, h.free, h.deferred, h.lists]
 have hn : ∀ a b, nextS M' a b = nextS M a b := fun a b => by rw [nextS, nextS, h.sup, h.roots]
 have hf : ∀ a b s, flushR D M'.fresh a b s = flushM D M.fresh a b s := fun a b s => by rw [flushR, flushM, h.freshR hW]
 have he : (M'.fresh = [] ↔ M.fresh = []) := ⟨fun e => by have := h.perm; rw [e] at this; exact this.symm.eq_nil, fun e => by have := h.perm; rw [e] at this; exact this.eq_nil⟩
 unfold commitR commitM
 rw [h.over, h.deferred, h.roots, h.sup, hp]
 simp only [he, hn, hf]
 split
 ·exact ⟨rfl, rfl, h⟩
 split
 ·exact ⟨rfl, rfl, h⟩
 cases hpl : planM M with
 | none => exact ⟨rfl, rfl, h⟩
 | some y =>
  dsimp only
  split
  ·exact ⟨rfl, rfl, ⟨rfl, rfl, rfl, rfl, rfl, rfl, rfl, .refl _, .nil⟩⟩
  ·exact ⟨rfl, rfl, ⟨rfl, rfl, rfl, rfl, rfl, rfl, rfl, .refl _, .nil⟩⟩
theorem Sim.wf (h : Sim M M') (hW : M.Wf) : M'.Wf := by
 have hp : (M'.free ++ (M'.deferred ++ (M'.lists ++ M'.fresh.map (·.1)))).Perm (M.free ++ (M.deferred ++ (M.lists ++ M.fresh.map (·.1)))) := by
  rw [h.free, h.deferred, h.lists]
  exact ((h.perm.map _).append_left _).append_left _ |>.append_left _
 exact { n4 := by rw [h.sup]; exact hW.n4, u32 := by rw [h.sup]; exact hW.u32, roots := by rw [h.roots]; exact hW.roots, namedS := by rw [h.named]; exact hW.namedS, named := by rw [h.named, h.sup]; exact hW.named, freeS := by rw [h.free]; exact hW.freeS, defS := by rw [h.deferred]; exact hW.defS, nodup := hp.nodup_iff.2 hW.nodup, range := fun x hx => by rw [h.sup]; exact hW.range x (hp.mem_iff.1 hx), body := fun e he => hW.body e (h.perm.mem_iff.1 he) }
theorem PgM.Wf.small (hW : M.Wf) : M.Small := by
 have := PgM.Wf.all M hW
 exact ⟨by omega, by omega, by omega, by omega, hW.freeS, hW.defS, fun e he => Nat.le_trans (hW.body e he).2.1 (by decide), fun e he => (hW.body e he).2.2⟩
theorem Sim.page (h : Sim M M') (hW : M.Wf) (D : DiskM) (a : OpM) (hn : U32 a.n) (hk : 0 <= a.kind /\ a.kind < 256) (hlg : 0 <= a.long /\ a.long < 65536) (hB : IsB a.body) :
  (pageM D D M M' a).1 = true /\ Sim (pageM D D M M' a).2.1 (pageM D D M M' a).2.2 /\ (pageM D D M M' a).2.1.Wf := by
 unfold pageM
 split
 ·have := h.make hW a.kind a.all
  exact ⟨decide_eq_true this.1.symm, this.2, (qpF hW hk (OpM.all_IsB hB)).1⟩
 split
 ·have := h.put hW a.n a.kind a.all
  exact ⟨decide_eq_true this.1.symm, this.2, (qtd hW hk (OpM.all_IsB hB)).1⟩
 split
 ·have := h.drop hW a.n
  exact ⟨decide_eq_true this.1.symm, this.2, qsP hW⟩
 split
 ·exact ⟨decide_eq_true (h.read hW D a.n).symm, h, hW⟩
 ·have := h.setRoot (IntKind.wrap .i32 a.n) a.n a.kind a.long
  refine ⟨decide_eq_true this.1.symm, this.2, ?_⟩
  unfold setRootM
  split
  ·exact hW
  split
  ·exact hW
  ·refine { hW with roots := fun x hx => ?_ }
   have hx : x ∈ M.roots.take (3 * (IntKind.wrap .i32 a.n).toNat) ++ [a.n, a.kind, a.long] ++ M.roots.drop (3 * (IntKind.wrap .i32 a.n).toNat + 3) := hx
   rcases List.mem_append.1 hx with hx | hx
   ·rcases List.mem_append.1 hx with hx | hx
    ·exact hW.roots x (List.mem_of_mem_take hx)
    ·simp only [List.mem_cons, List.not_mem_nil, or_false] at hx
     rcases hx with rfl | rfl | rfl
     ·exact hn
     ·constructor <;> omega
     ·constructor <;> omega
   ·exact hW.roots x (List.mem_of_mem_drop hx)
end
end
def wvZ : List Value := rvW rvZ
theorem qbY : wvZ.length = 27 := rfl
theorem qmM : wvZ.all Value.oneCell' = true := rfl
theorem qqt : ((Tryz.prog.info? BTT).bind (·.zero)).map (fun z => z.cells.toList) = some (bothV none none rvZ none wvZ 0) := by kernel_rfl
abbrev btOffs : Array (Nat × Nat) := #[(0, 1), (1, 1), (2, 64), (66, 1), (67, 27), (94, 1)]
theorem qrA : Tryz.prog.underlying BTT = some (.struct (fieldsOf Tryz.prog BTT)) := by kernel_rfl
theorem qsS : ∀ w, ((fieldsOf Tryz.prog BTT).mapM fun f => do pure (f.offset, <- sizeOf f.type) : Sem (Array (Nat × Nat))).run Tryz.prog w = .ok btOffs w := fun w => by kernel_rfl
theorem qrc {d p : Option Addr} {x : RV} (hx : x.Ok) (w : World) : (Instr.build BTT #[(0, .pointer d), (1, .pointer p), (2, .agg (refV x).toArray)]).run Tryz.prog w = .ok (.agg (bothV d p x none wvZ 0).toArray) w := by
 obtain ⟨z, hz, hzs⟩ := Option.map_eq_some_iff.1 qqt
 have hzc : z.cells = (bothV none none rvZ none wvZ 0).toArray := by rw [<- hzs]
 refine qba (parts := [(0, .pointer d), (1, .pointer p), (2, .agg (refV x).toArray)]) hz qrA qsS ?_ w
 rw [hzc, qam (o := 0) (s := 1) rfl rfl (by rw [qdv qap qbY]; decide)]
 have e1 : splice (bothV none none rvZ none wvZ 0).toArray 0 (Value.cells (.pointer d)).toList = (bothV d none rvZ none wvZ 0).toArray := rfl
 rw [e1, qam (o := 1) (s := 1) rfl rfl (by rw [qdv qap qbY]; decide)]
 have e2 : splice (bothV d none rvZ none wvZ 0).toArray 1 (Value.cells (.pointer p)).toList = (bothV d p rvZ none wvZ 0).toArray := rfl
 rw [e2, qam (o := 2) (s := 64) rfl (by show (refV x).toArray.size = 64; rw [List.size_toArray, qax hx]) (by rw [qdv qap qbY]; decide)]
 have e3 : splice (bothV d p rvZ none wvZ 0).toArray 2 (Value.cells (.agg (refV x).toArray)).toList = (bothV d p x none wvZ 0).toArray := qpV qap hx
 rw [e3]
 rfl
theorem qr3 {w : World} {n : Nat} {K : List Value × Bool -> World -> Prop} (hv : Hv w) (h8 : 8 <= n) (h4 : n <= 4096)
  (hk : ∀ dbk pb FD F D x w', DiskAt w' dbk FD D -> Lim D 5000 -> PagerAt w' FD pb (dbOf dbk (madeM n)) F (madeM n) -> Made D n -> RP (FD ++ F) w' x D (madeM n) -> Fr [] w w' -> (∀ b ∈ FD ++ F, w.heap.size <= b) -> K (bothV (some ⟨dbk, 0, none⟩) (some ⟨pb, 0, none⟩) x none wvZ 0, true) w') :
  call Tryz.prog 26 [.int .i64 n] [.raw, .one .bool] w K := by
 refine qh7 ?_
 unfold qcL
 refine Own.newZ (Own.start [] w) qqt fun r1 w1 e1 ho1 => ?_
 have hX1 : ∀ b ∈ [r1], b < w1.heap.size := fun b hb => by rw [List.mem_singleton.1 hb]; exact qac (ho1.at (i := 0) rfl)
 refine qnU [r1] hX1 (hv.frame0 ho1.fr) h8 h4 fun dbk pb FD F D w2 hDk hLm hPg hMade f2 hnew => ?_
 have ho2 := ho1.frame0 f2
 have l1w2 : r1 < w1.heap.size := qac (ho1.at (i := 0) rfl)
 have hS2 : ∀ b ∈ r1 :: (FD ++ F), b < w2.heap.size := fun b hb => (List.mem_cons.1 hb).elim (fun e => by rw [e]; exact Nat.lt_of_lt_of_le l1w2 f2.size) fun hb => (List.mem_append.1 hb).elim (hDk.lt b) (hPg.lt b)
 refine qsG h8 h4 fun d w3 hd f3 => ?_
 have hd3 := hd _ hS2
 have ho3 := ho2.frame0 f3
 refine Own.newSt (Own.start [] w3) (cs' := rdC d) rfl rfl (Nat.le_of_ble_eq_true rfl) fun r7 w4 e4 ho4' f4 => ?_
 have ho4 := Own.join0 ho3 ho4'
 have hd4 : RD (r7 :: r1 :: (FD ++ F)) w4 d (newM n) := hd3.frame (f4.mono fun b hb => nomatch hb) fun b hb => (List.mem_cons.1 hb).elim (fun e => .inr (by rw [e, e4]; exact Nat.le_refl _)) .inl
 have hS4 : ∀ b ∈ r7 :: r1 :: (FD ++ F), b < w4.heap.size := fun b hb => (List.mem_cons.1 hb).elim (fun e => by rw [e]; exact qac (ho4'.at (i := 0) rfl)) fun hb => Nat.lt_of_lt_of_le (hS2 b hb) (Nat.le_trans f3.size f4.size)
 refine Own.ldD (d := d) ho4 0 rfl ?_
 have hnl : (newM n).safe.length = n := by simp [newM]
 have hlim := Lim.new h4
 refine qqr hd4 hlim (by decide) (by rw [hnl]; exact h8) hS4 fun d5 w5 hd5 f5 => ?_
 rw [hMade.fmt] at hd5 ⊢
 have ho5 := ho4.frame0 f5
 refine Own.stD' (d := d) ho5 0 rfl fun w6 ho6 f6 => ?_
 have hd6 : RD (r7 :: r1 :: (FD ++ F)) w6 d5 D := hd5.keep (r := r7) (by simp) f6
 have hS6 : ∀ b ∈ r7 :: r1 :: (FD ++ F), b < w6.heap.size := fun b hb => Nat.lt_of_lt_of_le (hS4 b hb) (Nat.le_trans f5.size f6.size)
 refine Own.ldD (d := d5) ho6 0 rfl ?_
 have hop := hMade.opens.open
 have hsz : D.safe.length = n := by have : (D.safe.length : Int) = n := hMade.size; omega
 refine qkf hd6 hLm.ok (by rw [hsz]; omega) hS6 (fun e he => by rw [hop] at he; cases he) fun x M' w7 hM hp7 f7 => ?_
 rw [hop] at hM
 have hM : madeM n = M' := Option.some.inj (congrArg Prod.fst hM)
 subst hM
 have ho7 := ho6.frame0 f7
 refine Own.newZ (Own.start [] w7) qbD fun r17 w8 e8 ho8' => ?_
 refine Own.stP ho8' 0 rfl qap hp7.ok fun w9 ho9' f9 => ?_
 refine Own.ldP ho9' 0 rfl hp7.ok ?_
 have ho9 := ho7.frame0 ho9'.fr
 refine qay (ts := [Ty1.raw]) (bothV (some ⟨dbk, 0, none⟩) (some ⟨pb, 0, none⟩) x none wvZ 0) (qrc hp7.ok w9) ?_
 refine cond_true rfl (cond_true rfl ?_)
 have l95 := qoc (d := some ⟨dbk, 0, none⟩) (p := some ⟨pb, 0, none⟩) (m := none) (t := 0) hp7.ok qbY
 refine qan l95 ?_
 refine Own.st' ho9 1 rfl (bothV (some ⟨dbk, 0, none⟩) (some ⟨pb, 0, none⟩) x none wvZ 0).toArray (qa5 (by rw [qdv qap qbY, l95])) (qrm qmM) (by rw [qdv qap qbY, l95]; exact Nat.le_of_ble_eq_true rfl) fun w10 ho10 f10 => ?_
 refine qaw (ho10.at (i := 1) rfl) (bothV (some ⟨dbk, 0, none⟩) (some ⟨pb, 0, none⟩) x none wvZ 0) l95 (by rw [List.drop_zero, List.take_of_length_le (Nat.le_of_eq l95)]) ?_
 have l1 : w.heap.size <= r1 := by omega
 have f24 : Fr [] w2 w4 := f3.trans f4
 have f26 : Fr [] w2 w6 := (f24.trans f5).trans' f6 fun b hb => by rw [List.mem_singleton.1 hb, e4]; exact .inr f3.size
 have f29 : Fr [] w2 w9 := (f26.trans f7).trans ho9'.fr
 have hp9 : RP (r7 :: r1 :: (FD ++ F)) w9 x D (madeM n) := hp7.frame0 ho9'.fr
 have l1w : w1.heap.size = w.heap.size + 1 -> True := fun _ => trivial
 have hr1 : r1 < w1.heap.size := l1w2
 have nr1 : ∀ b ∈ FD ++ F, b ≠ r1 := fun b hb e => by have := hnew b hb; omega
 have hp9' : RP (r1 :: (FD ++ F)) w9 x D (madeM n) := hp9.frame (.refl _ _) fun b hb => .inl (List.mem_cons_of_mem _ hb)
 have f210 : Fr [r1] w2 w10 := (f29.mono fun b hb => nomatch hb).trans f10
 have hpg : PagerAt w10 (FD ++ [r1]) pb (dbOf dbk (madeM n)) F (madeM n) := hPg.frameX (f210.mono fun b hb _ => List.mem_append_right _ hb) (fun b hb => Nat.lt_of_lt_of_le (hPg.xlt b hb) f210.size) fun b hb => .inl hb
 refine hk dbk pb FD F D x w10 (hDk.frame f210 fun b hb hm => nr1 b (List.mem_append_left _ hb) (List.mem_singleton.1 hm)) hLm (hpg.weakX fun b hb => List.mem_append_left _ hb) hMade (hp9'.frame (f10.mono fun b hb _ => by rw [List.mem_singleton.1 hb]; simp) fun b hb => .inl (List.mem_cons_of_mem _ hb)) ho10.fr fun b hb => Nat.le_trans ho1.fr.size (hnew b hb)
theorem qqw {D : DiskM} {f : List (Int × Int × List Int)} {p n : List Int} {s : Sup} : (flushM D f p n s).1.safe.length = D.safe.length :=
 qfs qhC fun D' h => qfs (by rw [qhA, h]) fun D' h => by rw [qrK, h]
theorem qpe {D : DiskM} {M : PgM} : (commitM D M).1.1.safe.length = D.safe.length := by
 unfold commitM
 split
 ·rfl
 split
 ·rfl
 split
 ·rfl
 ·split <;> exact qqw
theorem qo0 {D : DiskM} {M : PgM} (h : 0 <= M.turn) : 0 <= (commitM D M).1.2.turn /\ (commitM D M).1.2.turn <= M.turn + 1 := by
 unfold commitM
 split
 ·dsimp only; omega
 split
 ·dsimp only; omega
 split
 ·dsimp only; omega
 ·split
  ·show 0 <= (1 : Int) /\ (1 : Int) <= M.turn + 1; omega
  ·show 0 <= M.turn + 1 /\ M.turn + 1 <= M.turn + 1; omega
theorem qoz {D : DiskM} {M : PgM} (h : 0 <= M.turn) : 0 <= (commitR D M).1.2.turn /\ (commitR D M).1.2.turn <= M.turn + 1 := by
 unfold commitR
 split
 ·dsimp only; omega
 split
 ·dsimp only; omega
 split
 ·dsimp only; omega
 ·split
  ·show 0 <= (0 : Int) /\ (0 : Int) <= M.turn + 1; omega
  ·show 0 <= M.turn + 1 /\ M.turn + 1 <= M.turn + 1; omega
theorem qp5 (M : PgM) (kd : Int) (l : List Int) : (makeV M kd l).2.turn = M.turn := by unfold makeV; split; rfl; split; rfl; split <;> rfl
theorem qqQ (M : PgM) (kd : Int) (l : List Int) : (makeR M kd l).2.turn = M.turn := by unfold makeR; split; rfl; split; rfl; split <;> rfl
theorem qnh (M : PgM) (n kd : Int) (l : List Int) : (putV M n kd l).2.turn = M.turn := by
 unfold putV
 split
 ·rfl
 ·split
  ·rfl
  ·split <;> rfl
theorem qlD (M : PgM) (n : Int) : (dropV M n).2.turn = M.turn := by
 unfold dropV
 split
 ·rfl
 ·split
  ·rfl
  ·split <;> rfl
theorem qja (M : PgM) (t a b c : Int) : (setRootM M t a b c).2.turn = M.turn := by
 unfold setRootM
 split
 ·rfl
 ·split <;> rfl
theorem qqJ (D D' : DiskM) (M M' : PgM) (a : OpM) : (pageM D D' M M' a).2.1.turn = M.turn /\ (pageM D D' M M' a).2.2.turn = M'.turn := by
 unfold pageM
 split
 ·exact ⟨qp5 .., qqQ ..⟩
 split
 ·exact ⟨qnh .., qnh ..⟩
 split
 ·exact ⟨qlD .., qlD ..⟩
 split
 ·exact ⟨rfl, rfl⟩
 ·exact ⟨qja .., qja ..⟩
theorem Pair.lims {w : World} {bb dbk pb : Nat} {FD X F : List Nat} {x : RV} {D D' : DiskM} {M M' : PgM} {k k2 : Nat} {m : Option Addr} {wv : List Value} {t : Int} (h : Pair w bb dbk pb FD X F x D M D' M' k m wv t) (hk : k <= k2) : Pair w bb dbk pb FD X F x D M D' M' k2 m wv t :=
 ⟨h.cell, h.disk, h.lim.mono hk, h.pager, h.sub, h.bx, h.nd, h.ref, h.wl, h.w1⟩
structure Good (D : DiskM) (M M' : PgM) (j : Nat) : Prop where
 sim : Sim M M'
 wf : M.Wf
 turn : 0 <= M.turn /\ M.turn <= j
 turn' : 0 <= M'.turn /\ M'.turn <= j
theorem qr8 {w : World} {bb dbk pb : Nat} {FD X F : List Nat} {x : RV} {D : DiskM} {M M' : PgM} {k j : Nat} {m : Option Addr} {wv : List Value} {t : Int} {o : OpC} {a : OpM} {K : Bool -> World -> Prop}
  (h : Pair w bb dbk pb FD X F x D M D M' k m wv t) (hG : Good D M M' j) (hj : j <= 100000) (hk6 : k + 5000 <= 1000000) (hv : Hv w) (hg : HG ∉ FD) (hop : OpOk (X ++ F) w o a) (hl : a.body.length <= 600) (h6 : a.act % 12 < 6)
  (kk : ∀ FD2 X2 F2 x2 D2 M2 M2' w2, Pair w2 bb dbk pb FD2 X2 F2 x2 D2 M2 D2 M2' (k + 5000) m wv t -> Good D2 M2 M2' (j + 1) -> D2.safe.length = D.safe.length -> Fr (bb :: (FD ++ F)) w w2 -> (∀ b ∈ X2 ++ F2, b ∈ X ++ F \/ w.heap.size <= b) -> (∀ b ∈ FD2, b ∈ FD ++ F \/ w.heap.size <= b) -> K true w2) :
  call Tryz.prog 27 [.pointer (some ⟨bb, 0, none⟩), .agg (opA o)] [.one .bool] w K := by
 obtain ⟨o0, o1, o2, o3, o4, o5⟩ := o
 have ea : o0 = a.act := hop.act
 have hact := hop.ract
 refine qf1 (b := some ⟨bb, 0, none⟩) (o0 := o0) (o1 := o1) (o2 := o2) (o3 := o3) (o4 := o4) (o5 := o5) ?_
 unfold qbv
 refine Own.new' (Own.start [] w) fun r1 w2 e2 f2 ho => ?_
 have h2 := h.frame0 f2
 have hx := h.ref.ok
 have l64 := qax hx
 refine Own.ld (c := .int .u8) ho 0 rfl o0 rfl ?_
 have htm : Int.tmod o0 12 = a.act % 12 := by rw [ea, Int.tmod_eq_emod_of_nonneg hact.1]
 rw [htm]
 refine qaa (fun hc => ?_) (fun hc => ?_)
 ·refine qad ?_
  refine qag (c := .ptr) (off := 0 + 1) h2.cell (some ⟨pb, 0, none⟩) qla ?_
  refine qkM h2.disk h2.lim h2.pager h2.sub hG.wf hk6 ⟨hG.turn.1, by have := hG.turn.2; omega⟩ (hv.frame0 f2) hg fun FD3 F3 w3 hd3 hl3 hp3 t3 => ?_
  have bnF := h2.bnF
  have hbl := qac h2.cell
  have hb3 : bb ∉ FD ++ F := fun hm => (List.mem_append.1 hm).elim h.nd bnF
  have hxs : ∀ b ∈ FD ++ F, b ∈ X ++ F := fun b hb => (List.mem_append.1 hb).elim (fun h' => List.mem_append_left _ (h.sub b h')) (List.mem_append_right _)
  have hnew : ∀ b ∈ (FD3 ++ X) ++ F3, b ∈ X ++ F \/ w2.heap.size <= b := fun b hb => by
   rcases List.mem_append.1 hb with hb | hb
   ·rcases List.mem_append.1 hb with hb | hb
    ·exact (t3.2 b (List.mem_append_left _ hb)).imp (hxs b) id
    ·exact .inl (List.mem_append_left _ hb)
   ·exact (t3.2 b (List.mem_append_right _ hb)).imp (hxs b) id
  have h3 : Pair w3 bb dbk pb FD3 (FD3 ++ X) F3 x (commitM D M).1.1 (commitM D M).1.2 D M' (k + 5000) m wv t :=
   ⟨by rw [t3.1.block bb hbl hb3]; exact h2.cell, hd3, hl3, hp3, fun b hb => List.mem_append_left _ hb, List.mem_append_right _ h.bx, fun hm => (t3.2 bb (List.mem_append_left _ hm)).elim hb3 (fun h' => by omega),
    h2.ref.frame (t3.1.mono fun b hb _ => hxs b hb) hnew, h.wl, h.w1⟩
  refine qad ?_
  refine qaw (off := 0 + 2) h3.cell (refV x) l64 (qtt hx) ?_
  have hcm := hG.sim.commit hG.wf D
  refine qqs h3.ref (hG.sim.wf hG.wf) h.lim hk6 ⟨hG.turn'.1, by have := hG.turn'.2; omega⟩ h3.lt fun x4 w4 hp4 f4 => ?_
  rw [hcm.1] at hp4
  refine Own.newZ (Own.start [] w4) qbD fun r w5 e5 hoz => ?_
  refine qa8 h3 (f4.trans hoz.fr) (hoz.at (i := 0) rfl) (by rw [e5]; exact f4.size) (hp4.frame (hoz.fr.mono fun b hb => nomatch hb) fun b hb => (List.mem_cons.1 hb).elim (fun e => .inr (by rw [e, e5]; exact Nat.le_refl _)) .inl) fun w6 h6 f6 => ?_
  have t1 := qo0 (D := D) hG.turn.1
  have t2 := qoz (D := D) hG.turn'.1
  have ht1 := hG.turn.2
  have ht2 := hG.turn'.2
  have := kk FD3 (FD3 ++ X) F3 x4 _ _ _ w6 h6 ⟨hcm.2.2, qrI hG.wf, ⟨t1.1, by omega⟩, ⟨t2.1, by omega⟩⟩ qpe ((f2.mono fun b hb => nomatch hb).trans ((t3.1.mono fun b hb _ => List.mem_cons_of_mem _ hb).trans (f6.mono fun b hb _ => by rw [List.mem_singleton.1 hb]; simp))) (fun b hb => (hnew b hb).imp id fun h' => Nat.le_trans f2.size h') (fun b hb => (t3.2 b (List.mem_append_left _ hb)).imp id fun h' => Nat.le_trans f2.size h')
  rw [hcm.2.1, show ((commitM D M).2 == (commitM D M).2) = true from beq_self_eq_true _]
  exact this
 have hc5 : ¬ a.act % 12 = 5 := by simpa using hc
 have neg : ∀ {n : Int}, 5 < n -> (a.act % 12 == n) = false := fun hn => by rw [beq_eq_false_iff_ne]; omega
 refine cond_false (neg (by decide)) (cond_false (neg (by decide)) (cond_false (neg (by decide)) (cond_false (neg (by decide)) (cond_false (neg (by decide)) (cond_false (neg (by decide)) ?_)))))
 refine Own.ldA (cl := opCs) ho 0 rfl (o0, o1, o2, o3, o4, o5) rfl ?_
 refine qsC (o := (o0, o1, o2, o3, o4, o5)) h2 hG.wf.small (hG.sim.wf hG.wf).small h.lim.ok (hv.frame0 f2) (hop.frame0 f2) hl fun F2 x2 w3 h3 f3 n3 => ?_
 have hp := hG.sim.page hG.wf D a hop.rn hop.rkind hop.rlong hop.rbody
 have ht := qqJ D D M M' a
 have ht1 := hG.turn
 have ht2 := hG.turn'
 have := kk FD X F2 x2 D _ _ w3 (h3.lims (by omega)) ⟨hp.2.1, hp.2.2, by rw [ht.1]; omega, by rw [ht.2]; omega⟩ rfl ((f2.mono fun b hb => nomatch hb).trans (f3.mono fun b hb _ => (List.mem_cons.1 hb).elim (fun e => by rw [e]; simp) fun hb => List.mem_cons_of_mem _ (List.mem_append_right _ hb)))
  (fun b hb => (List.mem_append.1 hb).elim (fun h' => .inl (List.mem_append_left _ h')) fun hb => (n3 b hb).imp (List.mem_append_right _) fun h' => Nat.le_trans f2.size h') (fun b hb => .inl (List.mem_append_left _ hb))
 rw [hp.1]
 exact this
structure Disks (w : World) (bb dbk pb : Nat) (FD : List Nat) (x : RV) (D : DiskM) (k : Nat) : Prop where
 cell : w.heap[bb]? = some (.cells (bothV (some ⟨dbk, 0, none⟩) (some ⟨pb, 0, none⟩) x none wvZ 0).toArray BTT (0, 0))
 disk : DiskAt w dbk FD D
 lim : Lim D k
 ref : RD (bb :: FD) w x.d D
 ok : x.Ok
 nd : bb ∉ FD
theorem Disks.frame0 {w w' : World} {bb dbk pb : Nat} {FD : List Nat} {x : RV} {D : DiskM} {k : Nat} (h : Disks w bb dbk pb FD x D k) (f : Fr [] w w') : Disks w' bb dbk pb FD x D k :=
 ⟨by rw [f.block bb (qac h.cell) (by simp)]; exact h.cell, h.disk.frame0 f, h.lim, h.ref.frame0 f, h.ok, h.nd⟩
theorem qqy {D : DiskM} (h : openM D = (none, 0)) : False := by
 unfold openM at h
 split at h
 ·rename_i hc; exact hc (congrArg Prod.snd h)
 split at h
 ·rename_i hc; exact hc (congrArg Prod.snd h)
 split at h
 ·rename_i hc; exact hc (congrArg Prod.snd h)
 split at h
 ·have := congrArg Prod.snd h; exact absurd this (by decide)
 split at h
 ·have := congrArg Prod.snd h; exact absurd this (by decide)
 ·have := congrArg Prod.fst h; cases this
theorem qng {D : DiskM} {bl : Int} : ∀ {f : Nat} {a : Int} {l n : List Int} {x : List Int × List Int}, walkM D bl f a l n = some x -> x.1.length <= l.length + f
 | 0, a, l, n, x, h => by cases h
 | f + 1, a, l, n, x, h => by
  rw [walkM] at h
  split at h
  ·cases h; dsimp only; omega
  split at h
  ·cases h
  split at h
  ·cases h
  split at h
  ·cases h
  split at h
  ·cases h
  ·have := qng h
   rw [List.length_append, List.length_cons, List.length_nil] at this
   omega
theorem qrz {D : DiskM} {s : Sup} {x : List Int × List Int} (hb : s.2.getD 0 0 <= 4096) (h : loadM D s = some x) : x.1.length <= 5000 /\ x.2.length <= 5000 := by
 unfold loadM at h
 split at h
 ·cases h
 ·rename_i y hy
  split at h
  ·rename_i hc
   cases h
   have h1 := qng hy
   have hnb := (qgn _ _ _ _).1 hc.1
   have := qdw (n := s.2.getD 0 0 + 1) (l := x.2.map (· + 1)) (by
    rw [List.Nodup, List.pairwise_map]
    exact hnb.2.imp (fun h => by omega)) (fun z hz => by
    obtain ⟨u, hu, rfl⟩ := List.mem_map.1 hz
    have := hnb.1 u hu
    omega)
   refine ⟨?_, ?_⟩
   ·simp only [List.length_nil] at h1; omega
   ·rcases this with h | h
    ·rw [List.length_map] at h; omega
    ·have := congrArg List.length h; simp at this; simp [this]
  ·cases h
theorem qrt {D : DiskM} {M : PgM} (hD : D.Ok) (h : openM D = (some M, 0)) : M.free.length <= 1000000 /\ M.lists.length <= 1000000 := by
 have hs := hD.safe
 unfold openM at h
 split at h
 ·cases congrArg Prod.fst h
 split at h
 ·cases congrArg Prod.fst h
 split at h
 ·cases congrArg Prod.fst h
 split at h
 ·cases congrArg Prod.fst h
 rename_i hb
 split at h
 ·cases congrArg Prod.fst h
 ·rename_i x hx
  have e := Option.some.inj (congrArg Prod.fst h)
  have := qrz (by omega) hx
  rw [<- e]
  show x.2.length <= _ /\ x.1.length <= _
  omega
theorem qo1 {w : World} {bb dbk pb : Nat} {FD : List Nat} {x : RV} {D : DiskM} {k : Nat} {K : Bool -> World -> Prop} (h : Disks w bb dbk pb FD x D k) (h2 : 2 <= D.safe.length) (hv : Hv w) (hk : ∀ w', Fr [] w w' -> K true w') :
  ld Cell.ptr ⟨bb, 0, none⟩ w fun p_52 =>
  call Tryz.prog 24 [.pointer p_52] [.one .ptr, .one (.int .i64)] w fun (t_53 : Option Addr × Int) w_54 =>
  ldA dC ⟨bb, 2, none⟩ w_54 fun t_55 =>
  call Tryz.prog 30 [.agg (HL.mk dC t_55).toArray] [.raw, .one (.int .i64)] w_54 fun (t_56 : List Value × Int) w_57 =>
  newZ Tryz.prog RPT w_57 fun r_58 w_59 =>
  chk (t_56.fst.length = 64) <|
  st ⟨r_58, 0, none⟩ t_56.fst w_59 fun w_60 =>
  join Bool (fun X_61 => cond (!t_53.snd == t_56.snd) (X_61 true w_60) (X_61 (!Option.isNone t_53.fst == !t_56.snd == 0) w_60)) fun b_62 w_63 =>
  cond b_62 (K false w_63)
   (call Tryz.prog 12 [] [.one .bool] (World.drew w_63) fun (b_64 : Bool) w_65 =>
   cond b_64
    (cond (Option.isNone t_53.fst) (K true w_65)
     (ld (Cell.int .u64) ⟨r_58, 5, none⟩ w_65 fun x_66 =>
     call Tryz.prog 25 [.pointer t_53.fst] [.one (.int .u64)] w_65 fun (x_67 : Int) w_68 =>
     held [fun w_69 => World.cell? w_69 ⟨r_58, 5, none⟩ = some (Value.int .u64 x_66)] w_68 <|
     cond (x_67 == x_66)
      (ld Cell.slice ⟨r_58, 37, none⟩ w_68 fun s_70 =>
      call Tryz.prog 9 [.pointer t_53.fst] [.one .slice] w_68 fun (s_71 : Sl) w_72 =>
      held [fun w_73 => World.cell? w_73 ⟨r_58, 37, none⟩ = some (Value.slice s_70.a s_70.len s_70.cap)] w_72 <|
      call Tryz.prog 31 [.slice s_71.a s_71.len s_71.cap, .slice s_70.a s_70.len s_70.cap] [.one .bool] w_72 fun (b_74 : Bool) w_75 =>
      cond b_74
       (ld Cell.slice ⟨r_58, 33, none⟩ w_75 fun s_76 =>
       call Tryz.prog 32 [.pointer t_53.fst] [.one .slice] w_75 fun (s_77 : Sl) w_78 =>
       held [fun w_79 => World.cell? w_79 ⟨r_58, 33, none⟩ = some (Value.slice s_76.a s_76.len s_76.cap)] w_78 <|
       call Tryz.prog 31 [.slice s_77.a s_77.len s_77.cap, .slice s_76.a s_76.len s_76.cap] [.one .bool] w_78 fun (b_80 : Bool) w_81 => K b_80 w_81)
       (K false w_75))
      (K false w_68)))
    (K false w_65)) := by
 refine qag (c := .ptr) h.cell (some ⟨dbk, 0, none⟩) qtf ?_
 have hx := h.ok
 have hS : ∀ b ∈ bb :: FD, b < w.heap.size := fun b hb => (List.mem_cons.1 hb).elim (fun e => by rw [e]; exact qac h.cell) (h.disk.lt b)
 refine qr2 h.disk h.lim.ok hv (fun hn w1 f1 => ?_) (fun pb2 F2 M2 w1 hM hp1 f1 n1 => ?_)
 ·have h1 := h.frame0 f1
  refine qmF (cl := dC) h1.cell x.d (qpY hx) ?_
  have hS1 : ∀ b ∈ bb :: FD, b < w1.heap.size := fun b hb => Nat.lt_of_lt_of_le (hS b hb) f1.size
  refine qkf h1.ref h.lim.ok h2 hS1 (fun e he w2 f2 => ?_) (fun x2 M2 w2 hM => by rw [hM] at hn; cases hn)
  have he2 : (openM D).2 = e := by rw [he]
  rw [he2]
  have hne : e ≠ 0 := fun e0 => by
   rw [e0] at he
   exact qqy he
  refine Own.newZ (Own.start [] w2) qbD fun r w3 e3 ho => ?_
  refine Own.stP ho 0 rfl qap qap fun w4 ho4 f4 => ?_
  refine qae (fun b w' => b = false /\ w' = w4) ?_ ?_
  ·refine cond_false (by simp) ?_
   refine ⟨?_, rfl⟩
   have : (e == 0) = false := by rw [beq_eq_false_iff_ne]; exact hne
   rw [this]
   rfl
  rintro b w5 ⟨rfl, rfl⟩
  refine cond_false rfl ?_
  have f05 : Fr [] w w5.drew := ((f1.trans f2).trans ho4.fr).drew
  refine qiM (hv.frame0 f05) fun w6 f6 => ?_
  exact cond_true rfl (cond_true rfl (hk w6 (f05.trans f6)))
 ·have h1 := h.frame0 f1
  refine qmF (cl := dC) h1.cell x.d (qpY hx) ?_
  have hpl : ∀ b ∈ F2, b < w1.heap.size := hp1.lt
  have hd1 : RD ((bb :: FD) ++ F2) w1 x.d D := h.ref.frame (f1.mono fun b hb => nomatch hb) fun b hb => (List.mem_append.1 hb).elim .inl fun hb => .inr (n1 b hb)
  have hS1 : ∀ b ∈ (bb :: FD) ++ F2, b < w1.heap.size := fun b hb => (List.mem_append.1 hb).elim (fun hb => Nat.lt_of_lt_of_le (hS b hb) f1.size) (hpl b)
  refine qkf hd1 h.lim.ok h2 hS1 (fun e he => by rw [hM] at he; cases he) (fun x2 M3 w2 hM3 hp2 f2 => ?_)
  rw [hM] at hM3
  have e3 : M2 = M3 := Option.some.inj (congrArg Prod.fst hM3)
  subst e3
  refine Own.newZ (Own.start [] w2) qbD fun r w3 e3 ho => ?_
  refine Own.stP ho 0 rfl qap hp2.ok fun w4 ho4 f4 => ?_
  refine qae (fun b w' => b = false /\ w' = w4) ?_ ?_
  ·refine cond_false (by simp) ⟨rfl, rfl⟩
  rintro b w5 ⟨rfl, rfl⟩
  refine cond_false rfl ?_
  have f25 : Fr [] w2 w5.drew := ho4.fr.drew
  have f05 : Fr [] w w5.drew := (f1.trans f2).trans f25
  refine qiM (hv.frame0 f05) fun w6 f6 => ?_
  refine cond_true rfl (cond_false rfl ?_)
  have hx2 := hp2.ok
  have ho6 := (ho4.drew).frame0 f6
  have hp6 := hp2.frame0 (f25.trans f6)
  have hp16 := hp1.frame0 ((f2.trans f25).trans f6)
  have hlen := qrt h.lim.ok hM
  refine Own.ld (c := .int .u64) ho6 0 rfl M2.sup.1 (by rw [<- hp2.sup]; exact qnK hx2) ?_
  refine qpS hp16 ?_
  refine qar (ho6.cell 0 rfl (by rw [<- hp2.sup]; exact qnK hx2)) ?_
  refine cond_true (beq_self_eq_true _) ?_
  refine Own.ld (c := .slice) ho6 0 rfl x2.sf (qdR hx2) ?_
  refine qlk hp16 (by omega) fun s7 w7 ht7 f7 => ?_
  have ho7 := ho6.frame0 f7
  refine qar (ho7.cell 0 rfl (qdR hx2)) ?_
  obtain ⟨B7, b7, n7⟩ := qgT ht7
  refine qfd (S := []) (Buf.rds qas b7 fun b hb hm => nomatch hm) (hp6.free.frame0 f7) (by omega) fun w8 f8 => ?_
  have f8 : Fr [] w7 w8 := .of_same f8
  refine cond_true rfl ?_
  have ho8 := ho7.frame0 f8
  refine Own.ld (c := .slice) ho8 0 rfl x2.sl (qgd hx2) ?_
  refine qjO (hp16.frame0 (f7.trans f8)) (by omega) fun s9 B9 w9 b9 f9 n9 => ?_
  have ho9 := ho8.frame0 f9
  refine qar (ho9.cell 0 rfl (qgd hx2)) ?_
  refine qfd (S := []) (Buf.rds qas b9 fun b hb hm => nomatch hm) (hp6.lists.frame0 ((f7.trans f8).trans f9)) (by omega) fun w10 f10 => ?_
  exact hk w10 ((((((f05.trans f6).trans f7).trans f8).trans f9)).trans (.of_same f10))
def opZ : Array Value := #[.int .u8 0, .int .u32 0, .int .u8 0, .slice none 0 0, .int .u16 0, .slice none 0 0]
theorem qru (o : OpC) : splice opZ 0 (HL.mk opCs o) = opA o := rfl
theorem qsx {w : World} {bb dbk pb : Nat} {FD : List Nat} {x : RV} {D : DiskM} {k : Nat} {o : OpC} {a : OpM} {L : List (Nat × Obj)} {r33 : Nat} {w0 : World} {K : PUnit -> World -> Prop} (h : Disks w bb dbk pb FD x D k) (hk9 : k < 900000) (hop : OpOk (bb :: FD) w o a) (hno : r33 ∉ bb :: FD) (hc : w.heap[r33]? = some (.cells (opA o) OPT (0, 0)))
  (kk : ∀ FD' x' D' w', Disks w' bb dbk pb FD' x' D' (k + 1) -> D'.safe.length = D.safe.length -> Fr (bb :: FD) w w' -> (∀ b ∈ FD', b ∈ FD \/ w.heap.size <= b) -> K () w') :
  ld Cell.slice ⟨r33, 3, none⟩ w fun s_36 =>
  cond ((s_36.len : Int) == 512)
   (ld Cell.ptr ⟨bb, 0, none⟩ w fun p_37 =>
   ld (Cell.int .u32) ⟨r33, 1, none⟩ w fun x_38 =>
   ld Cell.slice ⟨r33, 3, none⟩ w fun s_39 =>
   call Tryz.prog 28 [.pointer p_37, .int .i64 (IntKind.wrap .i64 (Int.tmod x_38 12)), .slice s_39.a s_39.len s_39.cap] [.one (.int .i64)] w fun (x_40 : Int) w_41 =>
   ldA dC ⟨bb, 2, none⟩ w_41 fun t_42 =>
   ld (Cell.int .u32) ⟨r33, 1, none⟩ w_41 fun x_43 =>
   ld Cell.slice ⟨r33, 3, none⟩ w_41 fun s_44 =>
   runQ [Ty1.one Cell.str] (fun w_45 => (convert 22 9 (.slice s_44.a s_44.len s_44.cap)).run Tryz.prog w_45) w_41 fun x_46 =>
   call Tryz.prog 29 [.agg (HL.mk dC t_42).toArray, .int .i64 (IntKind.wrap .i64 (Int.tmod x_43 12)), .string x_46] [.agg dC, .one (.int .i64)] w_41 fun (t_47 : RDv × Int) w_48 =>
   st ⟨bb, 2, none⟩ (HL.mk dC t_47.fst) w_48 fun w_49 => K () w_49)
   (K () w) := by
 obtain ⟨o0, o1, o2, o3, o4, o5⟩ := o
 have en : o1 = a.n := hop.n
 have hnu := hop.rn
 have hb := hop.body
 have hx := h.ok
 refine qag (c := .slice) hc o3 rfl ?_
 refine qaa (fun _ => ?_) (fun _ => ?_)
 ·refine qag (c := .ptr) h.cell (some ⟨dbk, 0, none⟩) qtf ?_
  refine qag (c := .int .u32) hc o1 rfl ?_
  refine qag (c := .slice) hc o3 rfl ?_
  refine qjR h.disk h.lim.ok hb fun FD2 w2 hd2 f2 n2 => ?_
  have hc2 : w2.heap[r33]? = some (.cells (opA (o0, o1, o2, o3, o4, o5)) OPT (0, 0)) := by rw [f2.block r33 (qac hc) (fun hm => hno (List.mem_cons_of_mem _ hm))]; exact hc
  have hcell2 : w2.heap[bb]? = some (.cells (bothV (some ⟨dbk, 0, none⟩) (some ⟨pb, 0, none⟩) x none wvZ 0).toArray BTT (0, 0)) := by rw [f2.block bb (qac h.cell) h.nd]; exact h.cell
  have hnew : ∀ b ∈ bb :: FD2, b ∈ bb :: FD \/ w.heap.size <= b := fun b hb => (List.mem_cons.1 hb).elim (fun e => .inl (by rw [e]; simp)) fun hb => (n2 b hb).imp (List.mem_cons_of_mem _) id
  have f2c : Fr (bb :: FD) w w2 := f2.mono fun b hb _ => List.mem_cons_of_mem _ hb
  have hr2 : RD (bb :: FD2) w2 x.d D := h.ref.frame f2c hnew
  have hb2 := hb.frame f2c hnew
  have nd2 : bb ∉ FD2 := fun hm => (n2 bb hm).elim h.nd fun h' => by have := qac h.cell; omega
  refine qmF (cl := dC) hcell2 x.d (qpY hx) ?_
  refine qag (c := .int .u32) hc2 o1 rfl ?_
  refine qag (c := .slice) hc2 o3 rfl ?_
  refine qaX hb2 hop.rbody ?_
  have hS2 : ∀ b ∈ bb :: FD2, b < w2.heap.size := fun b hb => (List.mem_cons.1 hb).elim (fun e => by rw [e]; exact qac hcell2) (hd2.lt b)
  have hw := h.lim.waits
  have hr := h.lim.writes
  refine qdt hr2 h.lim.ok hS2 (by omega) (by omega) fun d3 w3 hr3 f3 => ?_
  have hcell3 : w3.heap[bb]? = some (.cells (bothV (some ⟨dbk, 0, none⟩) (some ⟨pb, 0, none⟩) x none wvZ 0).toArray BTT (0, 0)) := by rw [f3.block bb (qac hcell2) (by simp)]; exact hcell2
  refine qcU (off := 2) hcell3 (bothV (some ⟨dbk, 0, none⟩) (some ⟨pb, 0, none⟩) { x with d := d3 } none wvZ 0).toArray (qsw hx) rfl (by rw [qdv hx qbY]; exact Nat.le_of_ble_eq_true rfl) fun w4 c4 f4 => ?_
  refine kk FD2 { x with d := d3 } _ w4 ⟨c4, (hd2.frame0 f3).frame f4 fun b hb hm => nd2 ((show b = bb from List.mem_singleton.1 hm) ▸ hb), h.lim.write (by omega) hop.rbody, hr3.keep (r := bb) (by simp) f4, ⟨hx.sup, hx.roots⟩, nd2⟩ qch ((f2c.trans (f3.mono fun b hb => nomatch hb)).trans (f4.mono fun b hb _ => by rw [List.mem_singleton.1 hb]; simp)) n2
 ·exact kk FD x D w ⟨h.cell, h.disk, h.lim.mono (by omega), h.ref, h.ok, h.nd⟩ rfl (.refl _ _) fun b hb => .inl hb
theorem qnx {w : World} {so sT : Sl} {los lts : List OpC} {K : Bool -> World -> Prop} (hv : Hv w) (hso : Rds (HL.mk opCs) 6 [] w so los) (hoo : ∀ o ∈ los, ∃ a, OpOk [] w o a) (hst : Rds (HL.mk opCs) 6 [] w sT lts) (hto : ∀ o ∈ lts, ∃ a, OpOk [] w o a) (hk : ∀ w', Fr [] w w' -> K true w') :
  call Tryz.prog 5 [.slice so.a so.len so.cap, .slice sT.a sT.len sT.cap] [.one .bool] w K := by
 refine qfp (ops := so) (turned := sT) ?_
 unfold qbm
 have hls := hso.1
 have hlt := hst.1
 refine qae (fun b w' => b = decide (los.length > 20 \/ lts.length > 20) /\ w' = w) ?_ ?_
 ·rw [hls, hlt]
  refine qaa (fun hc => ⟨by rw [decide_eq_true (Or.inl (by have := of_decide_eq_true hc; omega))], rfl⟩) (fun hc => ⟨?_, rfl⟩)
  have := of_decide_eq_false hc
  exact decide_eq_decide.2 ⟨fun h => .inr (by omega), fun h => by omega⟩
 rintro b w1 ⟨rfl, rfl⟩
 refine qaa (fun hc => qiM hv fun w2 f2 => hk w2 f2) (fun hc => ?_)
 have hlens := of_decide_eq_false hc
 refine qr3 (n := 12) hv (by decide) (by decide) fun dbk pb FD F D x w2 hdk hlm hpg hmade hrp f2 n2 => ?_
 have hx := hrp.ok
 have l95 := qoc (d := some ⟨dbk, 0, none⟩) (p := some ⟨pb, 0, none⟩) (m := none) (t := 0) hx qbY
 refine Own.newZ (Own.start [] w2) qqt fun bb w3 e3 ho3 => ?_
 refine qan l95 ?_
 refine Own.st' ho3 0 rfl (bothV (some ⟨dbk, 0, none⟩) (some ⟨pb, 0, none⟩) x none wvZ 0).toArray (qa5 (by rw [qdv qap qbY, l95])) (qrm qmM) (by rw [qdv qap qbY, l95]; exact Nat.le_of_ble_eq_true rfl) fun w4 ho4 f4 => ?_
 refine cond_false rfl ?_
 have f24 := ho4.fr
 have lbb : w2.heap.size <= bb := by omega
 have hsz2 := f2.size
 have hP0 : Pair w4 bb dbk pb FD (bb :: FD) F x D (madeM 12) D (madeM 12) 5000 none wvZ 0 := by
  refine ⟨ho4.at (i := 0) rfl, hdk.frame0 f24, hlm, hpg.frameX (X' := bb :: FD) (f24.mono fun b hb => nomatch hb) (fun b hb => ?_) (fun b hb => ?_), fun b hb => List.mem_cons_of_mem _ hb, by simp, fun hm => by have := hdk.lt bb hm; omega, hrp.frame (f24.mono fun b hb => nomatch hb) (fun b hb => ?_), qbY, qmM⟩
  ·exact (List.mem_cons.1 hb).elim (fun e => by rw [e]; exact qac (ho4.at (i := 0) rfl)) fun hb => Nat.lt_of_lt_of_le (hdk.lt b hb) f24.size
  ·exact (List.mem_cons.1 hb).elim (fun e => .inr (by rw [e]; exact lbb)) .inl
  ·rcases List.mem_append.1 hb with hb | hb
   ·exact (List.mem_cons.1 hb).elim (fun e => .inr (by rw [e]; exact lbb)) fun hb => .inl (List.mem_append_left _ hb)
   ·exact .inl (List.mem_append_right _ hb)
 have hG0 : Good D (madeM 12) (madeM 12) 1 := ⟨⟨rfl, rfl, rfl, rfl, rfl, rfl, rfl, .refl _, .nil⟩, qpv (by decide) (by decide), ⟨by decide, by decide⟩, ⟨by decide, by decide⟩⟩
 have hD12 : D.safe.length = 12 := by have : (D.safe.length : Int) = (12 : Nat) := hmade.size; omega
 have hnew0 : ∀ b ∈ (bb :: FD) ++ F, w1.heap.size <= b := fun b hb => by
  rcases List.mem_append.1 hb with hb | hb
  ·exact (List.mem_cons.1 hb).elim (fun e => by rw [e]; omega) fun hb => n2 b (List.mem_append_left _ hb)
  ·exact n2 b (List.mem_append_right _ hb)
 refine qaf (fun y w' => ∃ (i : Nat) (FD X F : List Nat) (x : RV) (D : DiskM) (M M' : PgM), y = i /\ i <= los.length /\ Pair w' bb dbk pb FD X F x D M D M' (5000 + 5000 * i) none wvZ 0 /\ Good D M M' (1 + i) /\ D.safe.length = 12 /\ Fr [] w1 w' /\ ∀ b ∈ X ++ F, w1.heap.size <= b) (fun y _ => ((los.length : Int) - y).toNat)
  ⟨0, FD, bb :: FD, F, x, D, madeM 12, madeM 12, rfl, by omega, hP0, hG0, hD12, f2.trans f24, hnew0⟩ ?_
 clear hP0 hG0 hD12 hnew0 hdk hlm hpg hmade hrp hx l95 ho3 ho4 n2
 rintro y w5 ⟨i, FD, X, F, x, D, M, M', rfl, hi, hP, hG, hD12, f5, n5⟩ Y hY
 rw [hls]
 refine qaa (fun hc => ?_) (fun hc => ?_)
 ·have hil : i < los.length := by have := of_decide_eq_true hc; omega
  obtain ⟨a, ha⟩ := hoo los[i] (List.getElem_mem hil)
  have hso5 := hso.frame0 f5
  refine Rds.getA hso5 i (cl := opCs) rfl (List.getElem?_eq_getElem hil) rfl (y := los[i]) rfl ?_
  refine Own.newSt (Own.start [] w5) (cs' := opA los[i]) (qru _) rfl (Nat.le_of_ble_eq_true rfl) fun r16 w6 e6 ho6 f6 => ?_
  have hP6 := hP.frame0 f6
  have f16 : Fr [] w1 w6 := f5.trans f6
  have ha6 : OpOk (X ++ F) w6 los[i] a := (ha.frame (S := []) (f5.mono fun b hb => nomatch hb) (fun b hb => .inr (n5 b hb)) : OpOk (X ++ F) w5 los[i] a).frame0 f6
  have hlen : los[i].2.2.2.1.len = a.body.length := ha.body.1
  have hbl := hP6.cell
  refine qae (fun b w' => b = false /\ ∃ (FD2 X2 F2 : List Nat) (x2 : RV) (D2 : DiskM) (M2 M2' : PgM), Pair w' bb dbk pb FD2 X2 F2 x2 D2 M2 D2 M2' (5000 + 5000 * (i + 1)) none wvZ 0 /\ Good D2 M2 M2' (1 + (i + 1)) /\ D2.safe.length = 12 /\ Fr [] w1 w' /\ ∀ b ∈ X2 ++ F2, w1.heap.size <= b) ?_ ?_
  ·have skip : ∃ (FD2 X2 F2 : List Nat) (x2 : RV) (D2 : DiskM) (M2 M2' : PgM), Pair w6 bb dbk pb FD2 X2 F2 x2 D2 M2 D2 M2' (5000 + 5000 * (i + 1)) none wvZ 0 /\ Good D2 M2 M2' (1 + (i + 1)) /\ D2.safe.length = 12 /\ Fr [] w1 w6 /\ ∀ b ∈ X2 ++ F2, w1.heap.size <= b :=
    ⟨FD, X, F, x, D, M, M', hP6.lims (by omega), ⟨hG.sim, hG.wf, ⟨hG.turn.1, by have := hG.turn.2; omega⟩, ⟨hG.turn'.1, by have := hG.turn'.2; omega⟩⟩, hD12, f16, n5⟩
   refine Own.ld (c := .slice) ho6 0 rfl los[i].2.2.2.1 rfl ?_
   refine qaa (fun hc => ?_) (fun hc => ⟨rfl, skip⟩)
   have hl600 : a.body.length <= 600 := by have := of_decide_eq_true hc; omega
   refine Own.ld (c := .int .u8) ho6 0 rfl los[i].1 rfl ?_
   refine qaa (fun hc => ?_) (fun hc => ⟨rfl, skip⟩)
   have h6 : a.act % 12 < 6 := by
    have := of_decide_eq_true hc
    rw [ha.act, Int.tmod_eq_emod_of_nonneg ha.ract.1] at this
    exact this
   refine Own.ldA (cl := opCs) ho6 0 rfl los[i] rfl ?_
   have hgF : HG ∉ FD := fun hm => by have := n5 HG (List.mem_append_left _ (hP.sub HG hm)); have := hv.lt; omega
   refine qr8 hP6 hG (by omega) (by omega) (hv.frame0 f16) hgF ha6 hl600 h6 fun FD2 X2 F2 x2 D2 M2 M2' w7 h7 g7 s7 f7 n7 m7 => ?_
   have hs16 := f16.size
   refine ⟨rfl, FD2, X2, F2, x2, D2, M2, M2', h7.lims (by omega), ⟨g7.sim, g7.wf, ⟨g7.turn.1, by have := g7.turn.2; omega⟩, ⟨g7.turn'.1, by have := g7.turn'.2; omega⟩⟩, by omega, f16.trans' f7 fun b hb => .inr ?_, fun b hb => ?_⟩
   ·rcases List.mem_cons.1 hb with rfl | hb
    ·exact n5 _ (List.mem_append_left _ hP.bx)
    ·exact n5 b ((List.mem_append.1 hb).elim (fun h' => List.mem_append_left _ (hP.sub b h')) (List.mem_append_right _))
   ·exact (n7 b hb).elim (n5 b) fun h' => by omega
  rintro b w7 ⟨rfl, FD2, X2, F2, x2, D2, M2, M2', hP2, hG2, hD2, f7, n7⟩
  refine cond_false rfl ?_
  rw [wi' _ (by omega)]
  exact hY _ _ ⟨i + 1, FD2, X2, F2, x2, D2, M2, M2', by simp, by omega, hP2, hG2, hD2, f7, n7⟩ (by omega)
 have hie : i = los.length := by have := of_decide_eq_false hc; omega
 have hDs : Disks w5 bb dbk pb FD x D 110000 := ⟨hP.cell, hP.disk, hP.lim.mono (by omega), hP.ref.disk.frame (.refl _ _) fun b hb => .inl ((List.mem_cons.1 hb).elim (fun e => by rw [e]; exact List.mem_append_left _ hP.bx) fun hb => List.mem_append_left _ (hP.sub b hb)), hP.ref.ok, hP.nd⟩
 have hn5 : ∀ b ∈ bb :: FD, w1.heap.size <= b := fun b hb => n5 b ((List.mem_cons.1 hb).elim (fun e => by rw [e]; exact List.mem_append_left _ hP.bx) fun hb => List.mem_append_left _ (hP.sub b hb))
 refine qaf (fun y w' => ∃ (j : Nat) (FD : List Nat) (x : RV) (D : DiskM), y = j /\ j <= lts.length /\ Disks w' bb dbk pb FD x D (110000 + j) /\ D.safe.length = 12 /\ Fr [] w1 w' /\ ∀ b ∈ bb :: FD, w1.heap.size <= b) (fun y _ => ((lts.length : Int) - y).toNat)
  ⟨0, FD, x, D, rfl, by omega, hDs, hD12, f5, hn5⟩ ?_
 clear hDs hn5 hD12 f5 n5 hP hG hY
 rintro y w6 ⟨j, FD, x, D, rfl, hj, hD6, hD12, f6, n6⟩ Z hZ
 rw [hlt]
 refine qaa (fun hc => ?_) (fun hc => ?_)
 ·have hjl : j < lts.length := by have := of_decide_eq_true hc; omega
  obtain ⟨a, ha⟩ := hto lts[j] (List.getElem_mem hjl)
  refine qae (fun _ w' => ∃ (FD2 : List Nat) (x2 : RV) (D2 : DiskM), Disks w' bb dbk pb FD2 x2 D2 (110000 + (j + 1)) /\ D2.safe.length = 12 /\ Fr [] w1 w' /\ ∀ b ∈ bb :: FD2, w1.heap.size <= b) ?_ ?_
  ·refine Rds.getA (hst.frame0 f6) j (cl := opCs) rfl (List.getElem?_eq_getElem hjl) rfl (y := lts[j]) rfl ?_
   refine Own.newSt (Own.start [] w6) (cs' := opA lts[j]) (qru _) rfl (Nat.le_of_ble_eq_true rfl) fun r33 w7 e7 ho7 f7 => ?_
   have hD7 := hD6.frame0 f7
   have f17 : Fr [] w1 w7 := f6.trans f7
   have hs17 := f17.size
   have ha7 : OpOk (bb :: FD) w7 lts[j] a := (ha.frame (S := []) (f6.mono fun b hb => nomatch hb) (fun b hb => .inr (n6 b hb)) : OpOk (bb :: FD) w6 lts[j] a).frame0 f7
   have hS6 : ∀ b ∈ bb :: FD, b < w6.heap.size := fun b hb => (List.mem_cons.1 hb).elim (fun e => by rw [e]; exact qac hD6.cell) (hD6.disk.lt b)
   refine qsx (r33 := r33) (K := fun _ w' => ∃ (FD2 : List Nat) (x2 : RV) (D2 : DiskM), Disks w' bb dbk pb FD2 x2 D2 (110000 + (j + 1)) /\ D2.safe.length = 12 /\ Fr [] w1 w' /\ ∀ b ∈ bb :: FD2, w1.heap.size <= b) (w0 := w1) (L := []) hD7 (by omega) ha7 (fun hm => by have := hS6 r33 hm; omega) (ho7.at (i := 0) rfl) fun FD2 x2 D2 w8 h8 s8 f8 n8 => ?_
   refine ⟨FD2, x2, D2, h8, by omega, f17.trans' f8 fun b hb => .inr (n6 b hb), fun b hb => ?_⟩
   rcases List.mem_cons.1 hb with rfl | hb
   ·exact n6 _ (by simp)
   ·exact (n8 b hb).elim (fun h' => n6 b (List.mem_cons_of_mem _ h')) fun h' => by omega
  rintro _ w7 ⟨FD2, x2, D2, h7, hD2, f7, n7⟩
  rw [wi' _ (by omega)]
  exact hZ _ _ ⟨j + 1, FD2, x2, D2, by simp, by omega, h7, hD2, f7, n7⟩ (by omega)
 ·exact qo1 hD6 (by omega) (hv.frame0 f6) fun w' f' => hk w' (f6.trans f')
end Go.Proofs.YtmbcedengdoamaaGreatDoor
end
