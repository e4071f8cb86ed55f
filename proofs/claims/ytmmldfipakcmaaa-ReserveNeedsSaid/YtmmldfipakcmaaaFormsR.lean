/- The readable forms of functions of the program, each shown to be what the evaluator gives: printed by a program of this claim (wip/tools). No condition. -/
import Derived.Test.YtmmldfipakcmaaaPtG
import Derived.Test.YtmmldfipakcmaaaProg
import Derived.KernelRfl
set_option linter.unusedVariables false
set_option maxRecDepth 100000
namespace Go.Proofs.Ytmmldfipakcmaaa
open Go Go.Pt
@[reducible] def rcs1 : List Cell := [Cell.int IntKind.i64, Cell.slice, Cell.slice, Cell.slice, Cell.int IntKind.u64, Cell.int IntKind.u64, Cell.int IntKind.u64, Cell.int IntKind.u64, Cell.int IntKind.u32, Cell.int IntKind.u32]
@[reducible] def rcs2 : List Cell := [Cell.int IntKind.i64, Cell.int IntKind.i64, Cell.int IntKind.i64, Cell.int IntKind.i64, Cell.int IntKind.i64, Cell.int IntKind.i64, Cell.int IntKind.i64, Cell.int IntKind.i64]
@[reducible] def rcs3 : List Cell := [Cell.int IntKind.u32, Cell.int IntKind.u32, Cell.int IntKind.u32, Cell.int IntKind.u32, Cell.int IntKind.u32, Cell.int IntKind.u32, Cell.int IntKind.u32, Cell.int IntKind.u32]
@[reducible] def rcs4 : List Cell := [Cell.int IntKind.i64, Cell.int IntKind.i64, Cell.int IntKind.i64, Cell.int IntKind.i64, Cell.int IntKind.i64, Cell.int IntKind.i64, Cell.int IntKind.i64, Cell.int IntKind.i64, Cell.int IntKind.i64, Cell.int IntKind.i64]

/-- cashbook.cashbooklaw27.ReserveHeights -/
def cashbooklaw27_ReserveHeightsF (t : Int) (keys : Int) (more : Int) (K : Bool → World → Prop) (w : World) : Prop :=
  call Try.prog 9 ([Value.int IntKind.i64 t, Value.int IntKind.u64 keys]) ([Ty1.one (Cell.int IntKind.i64)]) w <|
  fun (x_1 : Int) (w_2 : World) =>
  call Try.prog 10 [] ([Ty1.one Cell.bool]) w_2 <|
  fun (b_3 : Bool) (w_4 : World) =>
  cond b_3
    (call Try.prog 11 ([Value.int IntKind.i64 t, Value.int IntKind.u64 keys]) ([Ty1.one (Cell.int IntKind.i64)]) w_4 <|
    fun (x_5 : Int) (w_6 : World) =>
    cond (x_1 == x_5)
      (cond (decide (more < keys))
        (K true w_6)
        (call Try.prog 9 ([Value.int IntKind.i64 t, Value.int IntKind.u64 more]) ([Ty1.one (Cell.int IntKind.i64)]) w_6 <|
        fun (x_7 : Int) (w_8 : World) =>
        K (decide (x_1 ≤ x_7)) w_8))
      (K false w_6))
    (K false w_4)
def cashbooklaw27_ReserveHeightsA : List Ann := [.n, .n, .n]
theorem cashbooklaw27_ReserveHeights_of {t : Int} {keys : Int} {more : Int} {w : World} {K : Bool → World → Prop} (hF : cashbooklaw27_ReserveHeightsF t keys more K w) : call Try.prog 3 [.int .i64 t, .int .u64 keys, .int .u64 more] [.one .bool] w K :=
  calls_of_fnPt (an := cashbooklaw27_ReserveHeightsA) (ts := [.one .bool]) (args := [.int .i64 t, .int .u64 keys, .int .u64 more]) Try.func3 (by kernel_rfl) ((show fnPt (std Try.prog) Try.prog Try.f3 cashbooklaw27_ReserveHeightsA [.one .bool] [.int .i64 t, .int .u64 keys, .int .u64 more] K w = cashbooklaw27_ReserveHeightsF t keys more K w by kernel_rfl).mpr hF)

/-- cashbook.cashbooklaw27.ReserveNeeds -/
def cashbooklaw27_ReserveNeedsF (r0 : Int) (r1 : Sl) (r2 : Sl) (r3 : Sl) (r4 : Int) (r5 : Int) (r6 : Int) (r7 : Int) (r8 : Int) (r9 : Int) (counts0 : Int) (counts1 : Int) (counts2 : Int) (counts3 : Int) (counts4 : Int) (counts5 : Int) (counts6 : Int) (counts7 : Int) (blocks : Int) (K : Bool → World → Prop) (w : World) : Prop :=
  new (Obj.cells #[Value.int IntKind.i64 r0, Value.slice r1.a r1.len r1.cap, Value.slice r2.a r2.len r2.cap, Value.slice r3.a r3.len r3.cap, Value.int IntKind.u64 r4, Value.int IntKind.u64 r5, Value.int IntKind.u64 r6, Value.int IntKind.u64 r7, Value.int IntKind.u32 r8, Value.int IntKind.u32 r9] 35) w <|
  fun (r_1 : Nat) (w_2 : World) =>
  new (Obj.cells #[Value.int IntKind.u32 counts0, Value.int IntKind.u32 counts1, Value.int IntKind.u32 counts2, Value.int IntKind.u32 counts3, Value.int IntKind.u32 counts4, Value.int IntKind.u32 counts5, Value.int IntKind.u32 counts6, Value.int IntKind.u32 counts7] 36) w_2 <|
  fun (r_3 : Nat) (w_4 : World) =>
  join (Bool) (fun (X_5 : Bool → World → Prop) =>
    ld Cell.slice ({ block := r_1, off := 1 }) w_4 <|
    fun (s_6 : Sl) =>
    cond (decide ((↑s_6.len : Int) > 30))
      (X_5 true w_4)
      (ld Cell.slice ({ block := r_1, off := 2 }) w_4 <|
      fun (s_7 : Sl) =>
      cond (decide ((↑s_7.len : Int) > 30))
        (X_5 true w_4)
        (ld Cell.slice ({ block := r_1, off := 3 }) w_4 <|
        fun (s_8 : Sl) =>
        cond (decide ((↑s_8.len : Int) > 30))
          (X_5 true w_4)
          (cond (decide (blocks > 100000))
            (X_5 true w_4)
            (X_5 (decide (blocks < 2)) w_4))))) <|
  fun (b_9 : Bool) (w_10 : World) =>
  cond b_9
    (call Try.prog 10 [] ([Ty1.one Cell.bool]) w_10 <|
    fun (b_11 : Bool) (w_12 : World) =>
    K b_11 w_12)
    (call Try.prog 10 [] ([Ty1.one Cell.bool]) (World.drew w_10) <|
    fun (b_13 : Bool) (w_14 : World) =>
    cond b_13
      (ldA (rcs1) ({ block := r_1, off := 0 }) w_14 <|
      fun (t_15 : Int × Sl × Sl × Sl × Int × Int × Int × Int × Int × Int) =>
      ldA (rcs1) ({ block := r_1, off := 0 }) w_14 <|
      fun (t_16 : Int × Sl × Sl × Sl × Int × Int × Int × Int × Int × Int) =>
      call Try.prog 12 ([Value.agg (List.toArray (HL.mk rcs1 t_15))]) ([Ty1.agg rcs2]) w_14 <|
      fun (t_17 : Int × Int × Int × Int × Int × Int × Int × Int) (w_18 : World) =>
      held [fun (w_19 : Go.World) => Go.Pt.cellsAt w_19 ({ block := r_1, off := 0 }) 0 (HL.mk rcs1 t_16)] w_18 <|
      call Try.prog 13 ([Value.agg (List.toArray (HL.mk rcs1 t_16))]) ([Ty1.agg rcs2]) w_18 <|
      fun (t_20 : Int × Int × Int × Int × Int × Int × Int × Int) (w_21 : World) =>
      runQ [Ty1.one Cell.bool] (fun (w_22 : Go.World) => (do eqGuard BinOp.eql 37 (Operand.tmp 35) (Operand.tmp 37) (Value.agg (List.toArray (HL.mk rcs2 t_17))) (Value.agg (List.toArray (HL.mk rcs2 t_20))); binOp BinOp.eql 37 (Value.agg (List.toArray (HL.mk rcs2 t_17))) (Value.agg (List.toArray (HL.mk rcs2 t_20)))).run Try.prog w_22) w_21 <|
      fun (b_23 : Bool) =>
      cond b_23
        (ldA (rcs1) ({ block := r_1, off := 0 }) w_21 <|
        fun (t_24 : Int × Sl × Sl × Sl × Int × Int × Int × Int × Int × Int) =>
        ldA (rcs3) ({ block := r_3, off := 0 }) w_21 <|
        fun (t_25 : Int × Int × Int × Int × Int × Int × Int × Int) =>
        ldA (rcs1) ({ block := r_1, off := 0 }) w_21 <|
        fun (t_26 : Int × Sl × Sl × Sl × Int × Int × Int × Int × Int × Int) =>
        ldA (rcs3) ({ block := r_3, off := 0 }) w_21 <|
        fun (t_27 : Int × Int × Int × Int × Int × Int × Int × Int) =>
        call Try.prog 14 ([Value.agg (List.toArray (HL.mk rcs1 t_24)), Value.agg (List.toArray (HL.mk rcs3 t_25)), Value.int IntKind.i64 blocks]) ([Ty1.one (Cell.int IntKind.i64)]) w_21 <|
        fun (x_28 : Int) (w_29 : World) =>
        held [fun (w_30 : Go.World) => Go.Pt.cellsAt w_30 ({ block := r_3, off := 0 }) 0 (HL.mk rcs3 t_27), fun (w_31 : Go.World) => Go.Pt.cellsAt w_31 ({ block := r_1, off := 0 }) 0 (HL.mk rcs1 t_26)] w_29 <|
        call Try.prog 15 ([Value.agg (List.toArray (HL.mk rcs1 t_26)), Value.agg (List.toArray (HL.mk rcs3 t_27)), Value.int IntKind.i64 blocks]) ([Ty1.one (Cell.int IntKind.i64)]) w_29 <|
        fun (x_32 : Int) (w_33 : World) =>
        K (x_28 == x_32) w_33)
        (K false w_21))
      (K false w_14))
def cashbooklaw27_ReserveNeedsA : List Ann := [.n, .n, .j [(30, .one .bool)], .n, .n, .o [[0, 1, 2, 4, 3, 5, 6, 7, 8, 9, 10, 11, 13, 14, 15, 12, 16, 17, 18, 19]]]
theorem cashbooklaw27_ReserveNeeds_of {r0 : Int} {r1 : Sl} {r2 : Sl} {r3 : Sl} {r4 : Int} {r5 : Int} {r6 : Int} {r7 : Int} {r8 : Int} {r9 : Int} {counts0 : Int} {counts1 : Int} {counts2 : Int} {counts3 : Int} {counts4 : Int} {counts5 : Int} {counts6 : Int} {counts7 : Int} {blocks : Int} {w : World} {K : Bool → World → Prop} (hF : cashbooklaw27_ReserveNeedsF r0 r1 r2 r3 r4 r5 r6 r7 r8 r9 counts0 counts1 counts2 counts3 counts4 counts5 counts6 counts7 blocks K w) : call Try.prog 4 [.agg #[.int .i64 r0, .slice r1.a r1.len r1.cap, .slice r2.a r2.len r2.cap, .slice r3.a r3.len r3.cap, .int .u64 r4, .int .u64 r5, .int .u64 r6, .int .u64 r7, .int .u32 r8, .int .u32 r9], .agg #[.int .u32 counts0, .int .u32 counts1, .int .u32 counts2, .int .u32 counts3, .int .u32 counts4, .int .u32 counts5, .int .u32 counts6, .int .u32 counts7], .int .i64 blocks] [.one .bool] w K :=
  calls_of_fnPt (an := cashbooklaw27_ReserveNeedsA) (ts := [.one .bool]) (args := [.agg #[.int .i64 r0, .slice r1.a r1.len r1.cap, .slice r2.a r2.len r2.cap, .slice r3.a r3.len r3.cap, .int .u64 r4, .int .u64 r5, .int .u64 r6, .int .u64 r7, .int .u32 r8, .int .u32 r9], .agg #[.int .u32 counts0, .int .u32 counts1, .int .u32 counts2, .int .u32 counts3, .int .u32 counts4, .int .u32 counts5, .int .u32 counts6, .int .u32 counts7], .int .i64 blocks]) Try.func4 (by kernel_rfl) ((show fnPt (std Try.prog) Try.prog Try.f4 cashbooklaw27_ReserveNeedsA [.one .bool] [.agg #[.int .i64 r0, .slice r1.a r1.len r1.cap, .slice r2.a r2.len r2.cap, .slice r3.a r3.len r3.cap, .int .u64 r4, .int .u64 r5, .int .u64 r6, .int .u64 r7, .int .u32 r8, .int .u32 r9], .agg #[.int .u32 counts0, .int .u32 counts1, .int .u32 counts2, .int .u32 counts3, .int .u32 counts4, .int .u32 counts5, .int .u32 counts6, .int .u32 counts7], .int .i64 blocks] K w = cashbooklaw27_ReserveNeedsF r0 r1 r2 r3 r4 r5 r6 r7 r8 r9 counts0 counts1 counts2 counts3 counts4 counts5 counts6 counts7 blocks K w by kernel_rfl).mpr hF)

/-- cashbook.reserve.Height -/
def reserve_HeightF (t : Int) (keys : Int) (K : Int → World → Prop) (w : World) : Prop :=
  call Try.prog 27 ([Value.int IntKind.i64 t]) ([Ty1.one (Cell.int IntKind.i64), Ty1.one (Cell.int IntKind.i64)]) w <|
  fun (t_1 : Int × Int) (w_2 : World) =>
  join (Bool) (fun (X_3 : Bool → World → Prop) =>
    cond (t_1.fst == 0)
      (X_3 true w_2)
      (X_3 (keys == 0) w_2)) <|
  fun (b_4 : Bool) (w_5 : World) =>
  cond b_4
    (K 0 w_5)
    (call Try.prog 28 ([Value.int IntKind.i64 t_1.fst, Value.int IntKind.i64 t_1.snd]) ([Ty1.one (Cell.int IntKind.i64), Ty1.one (Cell.int IntKind.i64)]) w_5 <|
    fun (t_6 : Int × Int) (w_7 : World) =>
    chk (IntKind.wrap IntKind.u64 (IntKind.wrap IntKind.i64 (2 * IntKind.wrap IntKind.i64 (Int.tdiv t_6.fst 2))) ≠ 0) <|
    loop (Int × Int) (fun (X_8 : Int × Int → World → Prop) (t_9 : Int × Int) (w_10 : World) =>
      cond (decide (t_9.snd > 0))
        (chk (IntKind.wrap IntKind.u64 (IntKind.wrap IntKind.i64 (Int.tdiv t_6.snd 2)) ≠ 0) <|
        X_8 ((IntKind.wrap IntKind.i64 (t_9.fst + 1), IntKind.wrap IntKind.u64 (Int.tdiv t_9.snd (IntKind.wrap IntKind.u64 (IntKind.wrap IntKind.i64 (Int.tdiv t_6.snd 2)))))) w_10)
        (K t_9.fst w_10)) ((1, IntKind.wrap IntKind.u64 (Int.tdiv keys (IntKind.wrap IntKind.u64 (IntKind.wrap IntKind.i64 (2 * IntKind.wrap IntKind.i64 (Int.tdiv t_6.fst 2))))))) (World.drew w_7))
def reserve_HeightA : List Ann := [.n, .n, .n, .j [(21, .one .bool)], .n, .n, .n, .o [[0, 1, 2, 3, 4, 5, 6, 7]], .n, .l [(9, .one (.int .i64)), (10, .one (.int .u64))], .n, .n, .n, .n]
theorem reserve_Height_of {t : Int} {keys : Int} {w : World} {K : Int → World → Prop} (hF : reserve_HeightF t keys K w) : call Try.prog 9 [.int .i64 t, .int .u64 keys] [.one (.int .i64)] w K :=
  calls_of_fnPt (an := reserve_HeightA) (ts := [.one (.int .i64)]) (args := [.int .i64 t, .int .u64 keys]) Try.func9 (by kernel_rfl) ((show fnPt (std Try.prog) Try.prog Try.f9 reserve_HeightA [.one (.int .i64)] [.int .i64 t, .int .u64 keys] K w = reserve_HeightF t keys K w by kernel_rfl).mpr hF)

/-- cashbook.cashbooklaw27.fixed -/
def cashbooklaw27_fixedF  (K : Bool → World → Prop) (w : World) : Prop :=
  call Try.prog 9 ([Value.int IntKind.i64 0, Value.int IntKind.u64 1]) ([Ty1.one (Cell.int IntKind.i64)]) w <|
  fun (x_1 : Int) (w_2 : World) =>
  cond (x_1 == 1)
    (call Try.prog 9 ([Value.int IntKind.i64 0, Value.int IntKind.u64 3]) ([Ty1.one (Cell.int IntKind.i64)]) w_2 <|
    fun (x_3 : Int) (w_4 : World) =>
    cond (x_3 == 1)
      (call Try.prog 9 ([Value.int IntKind.i64 0, Value.int IntKind.u64 4]) ([Ty1.one (Cell.int IntKind.i64)]) w_4 <|
      fun (x_5 : Int) (w_6 : World) =>
      cond (x_5 == 2)
        (call Try.prog 9 ([Value.int IntKind.i64 0, Value.int IntKind.u64 47]) ([Ty1.one (Cell.int IntKind.i64)]) w_6 <|
        fun (x_7 : Int) (w_8 : World) =>
        cond (x_7 == 2)
          (call Try.prog 9 ([Value.int IntKind.i64 0, Value.int IntKind.u64 48]) ([Ty1.one (Cell.int IntKind.i64)]) w_8 <|
          fun (x_9 : Int) (w_10 : World) =>
          K (x_9 == 3) w_10)
          (K false w_8))
        (K false w_6))
      (K false w_4))
    (K false w_2)
def cashbooklaw27_fixedA : List Ann := [.n, .n]
theorem cashbooklaw27_fixed_of  {w : World} {K : Bool → World → Prop} (hF : cashbooklaw27_fixedF  K w) : call Try.prog 10 [] [.one .bool] w K :=
  calls_of_fnPt (an := cashbooklaw27_fixedA) (ts := [.one .bool]) (args := []) Try.func10 (by kernel_rfl) ((show fnPt (std Try.prog) Try.prog Try.f10 cashbooklaw27_fixedA [.one .bool] [] K w = cashbooklaw27_fixedF  K w by kernel_rfl).mpr hF)

/-- cashbook.cashbookref27.Height -/
def cashbookref27_HeightF (t : Int) (keys : Int) (K : Int → World → Prop) (w : World) : Prop :=
  call Try.prog 29 ([Value.int IntKind.i64 t]) ([Ty1.one (Cell.int IntKind.i64), Ty1.one (Cell.int IntKind.i64)]) w <|
  fun (t_1 : Int × Int) (w_2 : World) =>
  join (Bool) (fun (X_3 : Bool → World → Prop) =>
    cond (t_1.fst == 0)
      (X_3 true w_2)
      (X_3 (keys == 0) w_2)) <|
  fun (b_4 : Bool) (w_5 : World) =>
  cond b_4
    (K 0 w_5)
    (call Try.prog 30 ([Value.int IntKind.i64 t_1.fst, Value.int IntKind.i64 t_1.snd]) ([Ty1.one (Cell.int IntKind.i64), Ty1.one (Cell.int IntKind.i64)]) w_5 <|
    fun (t_6 : Int × Int) (w_7 : World) =>
    loop (Int × Int) (fun (X_8 : Int × Int → World → Prop) (t_9 : Int × Int) (w_10 : World) =>
      join (Bool) (fun (X_11 : Bool → World → Prop) =>
        cond (decide (t_9.snd < 70))
          (X_11 (decide (keys ≥ t_9.fst)) w_10)
          (X_11 false w_10)) <|
      fun (b_12 : Bool) (w_13 : World) =>
      cond b_12
        (chk (IntKind.wrap IntKind.u64 (IntKind.wrap IntKind.i64 (Int.tdiv t_6.snd 2)) ≠ 0) <|
        cond (decide (t_9.fst > IntKind.wrap IntKind.u64 (Int.tdiv 18446744073709551615 (IntKind.wrap IntKind.u64 (IntKind.wrap IntKind.i64 (Int.tdiv t_6.snd 2))))))
          (K (IntKind.wrap IntKind.i64 (t_9.snd + 1)) w_13)
          (X_8 ((IntKind.wrap IntKind.u64 (t_9.fst * IntKind.wrap IntKind.u64 (IntKind.wrap IntKind.i64 (Int.tdiv t_6.snd 2))), IntKind.wrap IntKind.i64 (t_9.snd + 1))) w_13))
        (K t_9.snd w_13)) ((IntKind.wrap IntKind.u64 (IntKind.wrap IntKind.i64 (2 * IntKind.wrap IntKind.i64 (Int.tdiv t_6.fst 2))), 1)) w_7)
def cashbookref27_HeightA : List Ann := [.n, .n, .n, .j [(21, .one .bool)], .n, .n, .n, .n, .n, .l [(9, .one (.int .u64)), (10, .one (.int .i64))], .n, .j [(38, .one .bool)], .n, .n, .n, .n, .n]
theorem cashbookref27_Height_of {t : Int} {keys : Int} {w : World} {K : Int → World → Prop} (hF : cashbookref27_HeightF t keys K w) : call Try.prog 11 [.int .i64 t, .int .u64 keys] [.one (.int .i64)] w K :=
  calls_of_fnPt (an := cashbookref27_HeightA) (ts := [.one (.int .i64)]) (args := [.int .i64 t, .int .u64 keys]) Try.func11 (by kernel_rfl) ((show fnPt (std Try.prog) Try.prog Try.f11 cashbookref27_HeightA [.one (.int .i64)] [.int .i64 t, .int .u64 keys] K w = cashbookref27_HeightF t keys K w by kernel_rfl).mpr hF)

/-- cashbook.reserve.Ops -/
def reserve_OpsF (r0 : Int) (r1 : Sl) (r2 : Sl) (r3 : Sl) (r4 : Int) (r5 : Int) (r6 : Int) (r7 : Int) (r8 : Int) (r9 : Int) (K : ((Int × Int × Int × Int × Int × Int × Int × Int)) → World → Prop) (w : World) : Prop :=
  new (Obj.cells #[Value.int IntKind.i64 r0, Value.slice r1.a r1.len r1.cap, Value.slice r2.a r2.len r2.cap, Value.slice r3.a r3.len r3.cap, Value.int IntKind.u64 r4, Value.int IntKind.u64 r5, Value.int IntKind.u64 r6, Value.int IntKind.u64 r7, Value.int IntKind.u32 r8, Value.int IntKind.u32 r9] 35) w <|
  fun (r_1 : Nat) (w_2 : World) =>
  new (Obj.cells #[Value.int IntKind.i64 0, Value.int IntKind.i64 0, Value.int IntKind.i64 0, Value.int IntKind.i64 0, Value.int IntKind.i64 0, Value.int IntKind.i64 0, Value.int IntKind.i64 0, Value.int IntKind.i64 0] 37) w_2 <|
  fun (r_3 : Nat) (w_4 : World) =>
  ld (Cell.int IntKind.i64) ({ block := r_1, off := 0 }) w_4 <|
  fun (x_5 : Int) =>
  call Try.prog 31 ([Value.int IntKind.i64 x_5]) ([Ty1.agg rcs2, Ty1.one (Cell.int IntKind.i64)]) w_4 <|
  fun (t_6 : (Int × Int × Int × Int × Int × Int × Int × Int) × Int) (w_7 : World) =>
  new (Obj.cells #[Value.int IntKind.i64 0, Value.int IntKind.i64 0, Value.int IntKind.i64 0, Value.int IntKind.i64 0, Value.int IntKind.i64 0, Value.int IntKind.i64 0, Value.int IntKind.i64 0, Value.int IntKind.i64 0] 37) w_7 <|
  fun (r_8 : Nat) (w_9 : World) =>
  st ({ block := r_8, off := 0 }) (HL.mk rcs2 t_6.fst) w_9 <|
  fun (w_10 : World) =>
  join (Int) (fun (X_11 : Int → World → Prop) =>
    ld (Cell.int IntKind.i64) ({ block := r_1, off := 0 }) w_10 <|
    fun (x_12 : Int) =>
    cond (x_12 == 1)
      (ld Cell.slice ({ block := r_1, off := 1 }) w_10 <|
      fun (s_13 : Sl) =>
      X_11 (↑s_13.len : Int) w_10)
      (cond (x_12 == 2)
        (ld Cell.slice ({ block := r_1, off := 2 }) w_10 <|
        fun (s_14 : Sl) =>
        X_11 (↑s_14.len : Int) w_10)
        (X_11 t_6.snd w_10))) <|
  fun (x_15 : Int) (w_16 : World) =>
  loop (Int) (fun (X_17 : Int → World → Prop) (x_18 : Int) (w_19 : World) =>
    cond (decide (x_18 < 8))
      (chk (0 ≤ x_18 ∧ x_18 < (↑8 : Int)) <|
      ld (Cell.int IntKind.i64) (Addr.add { block := r_8, off := 0 } (Int.toNat x_18 * 1)) w_19 <|
      fun (x_20 : Int) =>
      chk (0 ≤ x_18 ∧ x_18 < (↑8 : Int)) <|
      st (Addr.add { block := r_8, off := 0 } (Int.toNat x_18 * 1)) ([Value.int IntKind.i64 (IntKind.wrap IntKind.i64 (x_20 * x_15))]) w_19 <|
      fun (w_21 : World) =>
      X_17 (IntKind.wrap IntKind.i64 (x_18 + 1)) w_21)
      (join (PUnit) (fun (X_22 : PUnit → World → Prop) =>
        cond (decide (x_15 > 0))
          (st ({ block := r_8, off := 7 }) ([Value.int IntKind.i64 1]) w_19 <|
          fun (w_23 : World) =>
          X_22 () w_23)
          (X_22 () w_19)) <|
      fun (x_24 : PUnit) (w_25 : World) =>
      ldA (rcs2) ({ block := r_8, off := 0 }) w_25 <|
      fun (t_26 : Int × Int × Int × Int × Int × Int × Int × Int) =>
      st ({ block := r_3, off := 0 }) (HL.mk rcs2 t_26) w_25 <|
      fun (w_27 : World) =>
      ldA (rcs2) ({ block := r_3, off := 0 }) w_27 <|
      fun (t_28 : Int × Int × Int × Int × Int × Int × Int × Int) =>
      K t_28 w_27)) 0 w_16
def reserve_OpsA : List Ann := [.n, .n, .j [(4, .one (.int .i64))], .n, .n, .n, .n, .n, .l [(24, .one (.int .i64))], .n, .n, .n, .n, .j [], .n, .n]
theorem reserve_Ops_of {r0 : Int} {r1 : Sl} {r2 : Sl} {r3 : Sl} {r4 : Int} {r5 : Int} {r6 : Int} {r7 : Int} {r8 : Int} {r9 : Int} {w : World} {K : ((Int × Int × Int × Int × Int × Int × Int × Int)) → World → Prop} (hF : reserve_OpsF r0 r1 r2 r3 r4 r5 r6 r7 r8 r9 K w) : call Try.prog 12 [.agg #[.int .i64 r0, .slice r1.a r1.len r1.cap, .slice r2.a r2.len r2.cap, .slice r3.a r3.len r3.cap, .int .u64 r4, .int .u64 r5, .int .u64 r6, .int .u64 r7, .int .u32 r8, .int .u32 r9]] [.agg [.int .i64, .int .i64, .int .i64, .int .i64, .int .i64, .int .i64, .int .i64, .int .i64]] w K :=
  calls_of_fnPt (an := reserve_OpsA) (ts := [.agg [.int .i64, .int .i64, .int .i64, .int .i64, .int .i64, .int .i64, .int .i64, .int .i64]]) (args := [.agg #[.int .i64 r0, .slice r1.a r1.len r1.cap, .slice r2.a r2.len r2.cap, .slice r3.a r3.len r3.cap, .int .u64 r4, .int .u64 r5, .int .u64 r6, .int .u64 r7, .int .u32 r8, .int .u32 r9]]) Try.func12 (by kernel_rfl) ((show fnPt (std Try.prog) Try.prog Try.f12 reserve_OpsA [.agg [.int .i64, .int .i64, .int .i64, .int .i64, .int .i64, .int .i64, .int .i64, .int .i64]] [.agg #[.int .i64 r0, .slice r1.a r1.len r1.cap, .slice r2.a r2.len r2.cap, .slice r3.a r3.len r3.cap, .int .u64 r4, .int .u64 r5, .int .u64 r6, .int .u64 r7, .int .u32 r8, .int .u32 r9]] K w = reserve_OpsF r0 r1 r2 r3 r4 r5 r6 r7 r8 r9 K w by kernel_rfl).mpr hF)

/-- cashbook.cashbookref27.Ops -/
def cashbookref27_OpsF (r0 : Int) (r1 : Sl) (r2 : Sl) (r3 : Sl) (r4 : Int) (r5 : Int) (r6 : Int) (r7 : Int) (r8 : Int) (r9 : Int) (K : ((Int × Int × Int × Int × Int × Int × Int × Int)) → World → Prop) (w : World) : Prop :=
  new (Obj.cells #[Value.int IntKind.i64 r0, Value.slice r1.a r1.len r1.cap, Value.slice r2.a r2.len r2.cap, Value.slice r3.a r3.len r3.cap, Value.int IntKind.u64 r4, Value.int IntKind.u64 r5, Value.int IntKind.u64 r6, Value.int IntKind.u64 r7, Value.int IntKind.u32 r8, Value.int IntKind.u32 r9] 35) w <|
  fun (r_1 : Nat) (w_2 : World) =>
  new (Obj.cells #[Value.int IntKind.i64 0, Value.int IntKind.i64 0, Value.int IntKind.i64 0, Value.int IntKind.i64 0, Value.int IntKind.i64 0, Value.int IntKind.i64 0, Value.int IntKind.i64 0, Value.int IntKind.i64 0] 37) w_2 <|
  fun (r_3 : Nat) (w_4 : World) =>
  new (Obj.cells #[Value.int IntKind.i64 0, Value.int IntKind.i64 0, Value.int IntKind.i64 0, Value.int IntKind.i64 0, Value.int IntKind.i64 0, Value.int IntKind.i64 0, Value.int IntKind.i64 0, Value.int IntKind.i64 0] 37) w_4 <|
  fun (r_5 : Nat) (w_6 : World) =>
  st ({ block := r_5, off := 0 }) ([Value.int IntKind.i64 0, Value.int IntKind.i64 0, Value.int IntKind.i64 0, Value.int IntKind.i64 0, Value.int IntKind.i64 0, Value.int IntKind.i64 0, Value.int IntKind.i64 0, Value.int IntKind.i64 0]) w_6 <|
  fun (w_7 : World) =>
  join (Int) (fun (X_8 : Int → World → Prop) =>
    ld (Cell.int IntKind.i64) ({ block := r_1, off := 0 }) w_7 <|
    fun (x_9 : Int) =>
    cond (x_9 == 1)
      (ld Cell.slice ({ block := r_1, off := 1 }) w_7 <|
      fun (s_10 : Sl) =>
      st ({ block := r_5, off := 0 }) ([Value.int IntKind.i64 (↑s_10.len : Int), Value.int IntKind.i64 0, Value.int IntKind.i64 0, Value.int IntKind.i64 0, Value.int IntKind.i64 0, Value.int IntKind.i64 0, Value.int IntKind.i64 0, Value.int IntKind.i64 1]) w_7 <|
      fun (w_11 : World) =>
      X_8 (↑s_10.len : Int) w_11)
      (X_8 0 w_7)) <|
  fun (x_12 : Int) (w_13 : World) =>
  join (Int) (fun (X_14 : Int → World → Prop) =>
    ld (Cell.int IntKind.i64) ({ block := r_1, off := 0 }) w_13 <|
    fun (x_15 : Int) =>
    cond (x_15 == 2)
      (ld Cell.slice ({ block := r_1, off := 2 }) w_13 <|
      fun (s_16 : Sl) =>
      st ({ block := r_5, off := 0 }) ([Value.int IntKind.i64 (IntKind.wrap IntKind.i64 (2 * (↑s_16.len : Int))), Value.int IntKind.i64 (↑s_16.len : Int), Value.int IntKind.i64 (↑s_16.len : Int), Value.int IntKind.i64 (↑s_16.len : Int), Value.int IntKind.i64 (↑s_16.len : Int), Value.int IntKind.i64 (↑s_16.len : Int), Value.int IntKind.i64 (IntKind.wrap IntKind.i64 (2 * (↑s_16.len : Int))), Value.int IntKind.i64 1]) w_13 <|
      fun (w_17 : World) =>
      X_14 (↑s_16.len : Int) w_17)
      (X_14 x_12 w_13)) <|
  fun (x_18 : Int) (w_19 : World) =>
  join (Int) (fun (X_20 : Int → World → Prop) =>
    ld (Cell.int IntKind.i64) ({ block := r_1, off := 0 }) w_19 <|
    fun (x_21 : Int) =>
    cond (x_21 == 7)
      (st ({ block := r_5, off := 0 }) ([Value.int IntKind.i64 32, Value.int IntKind.i64 0, Value.int IntKind.i64 16, Value.int IntKind.i64 16, Value.int IntKind.i64 0, Value.int IntKind.i64 0, Value.int IntKind.i64 32, Value.int IntKind.i64 1]) w_19 <|
      fun (w_22 : World) =>
      X_20 16 w_22)
      (X_20 x_18 w_19)) <|
  fun (x_23 : Int) (w_24 : World) =>
  cond (x_23 == 0)
    (st ({ block := r_3, off := 0 }) ([Value.int IntKind.i64 0, Value.int IntKind.i64 0, Value.int IntKind.i64 0, Value.int IntKind.i64 0, Value.int IntKind.i64 0, Value.int IntKind.i64 0, Value.int IntKind.i64 0, Value.int IntKind.i64 0]) w_24 <|
    fun (w_25 : World) =>
    ldA (rcs2) ({ block := r_3, off := 0 }) w_25 <|
    fun (t_26 : Int × Int × Int × Int × Int × Int × Int × Int) =>
    K t_26 w_25)
    (ldA (rcs2) ({ block := r_5, off := 0 }) w_24 <|
    fun (t_27 : Int × Int × Int × Int × Int × Int × Int × Int) =>
    st ({ block := r_3, off := 0 }) (HL.mk rcs2 t_27) w_24 <|
    fun (w_28 : World) =>
    ldA (rcs2) ({ block := r_3, off := 0 }) w_28 <|
    fun (t_29 : Int × Int × Int × Int × Int × Int × Int × Int) =>
    K t_29 w_28)
def cashbookref27_OpsA : List Ann := [.n, .n, .n, .j [(3, .one (.int .i64))], .n, .n, .j [(3, .one (.int .i64))], .n, .n, .j [(3, .one (.int .i64))], .n, .n, .n, .n, .n, .n]
theorem cashbookref27_Ops_of {r0 : Int} {r1 : Sl} {r2 : Sl} {r3 : Sl} {r4 : Int} {r5 : Int} {r6 : Int} {r7 : Int} {r8 : Int} {r9 : Int} {w : World} {K : ((Int × Int × Int × Int × Int × Int × Int × Int)) → World → Prop} (hF : cashbookref27_OpsF r0 r1 r2 r3 r4 r5 r6 r7 r8 r9 K w) : call Try.prog 13 [.agg #[.int .i64 r0, .slice r1.a r1.len r1.cap, .slice r2.a r2.len r2.cap, .slice r3.a r3.len r3.cap, .int .u64 r4, .int .u64 r5, .int .u64 r6, .int .u64 r7, .int .u32 r8, .int .u32 r9]] [.agg [.int .i64, .int .i64, .int .i64, .int .i64, .int .i64, .int .i64, .int .i64, .int .i64]] w K :=
  calls_of_fnPt (an := cashbookref27_OpsA) (ts := [.agg [.int .i64, .int .i64, .int .i64, .int .i64, .int .i64, .int .i64, .int .i64, .int .i64]]) (args := [.agg #[.int .i64 r0, .slice r1.a r1.len r1.cap, .slice r2.a r2.len r2.cap, .slice r3.a r3.len r3.cap, .int .u64 r4, .int .u64 r5, .int .u64 r6, .int .u64 r7, .int .u32 r8, .int .u32 r9]]) Try.func13 (by kernel_rfl) ((show fnPt (std Try.prog) Try.prog Try.f13 cashbookref27_OpsA [.agg [.int .i64, .int .i64, .int .i64, .int .i64, .int .i64, .int .i64, .int .i64, .int .i64]] [.agg #[.int .i64 r0, .slice r1.a r1.len r1.cap, .slice r2.a r2.len r2.cap, .slice r3.a r3.len r3.cap, .int .u64 r4, .int .u64 r5, .int .u64 r6, .int .u64 r7, .int .u32 r8, .int .u32 r9]] K w = cashbookref27_OpsF r0 r1 r2 r3 r4 r5 r6 r7 r8 r9 K w by kernel_rfl).mpr hF)

/-- cashbook.reserve.Need -/
def reserve_NeedF (r0 : Int) (r1 : Sl) (r2 : Sl) (r3 : Sl) (r4 : Int) (r5 : Int) (r6 : Int) (r7 : Int) (r8 : Int) (r9 : Int) (counts0 : Int) (counts1 : Int) (counts2 : Int) (counts3 : Int) (counts4 : Int) (counts5 : Int) (counts6 : Int) (counts7 : Int) (blocks : Int) (K : Int → World → Prop) (w : World) : Prop :=
  new (Obj.cells #[Value.int IntKind.i64 r0, Value.slice r1.a r1.len r1.cap, Value.slice r2.a r2.len r2.cap, Value.slice r3.a r3.len r3.cap, Value.int IntKind.u64 r4, Value.int IntKind.u64 r5, Value.int IntKind.u64 r6, Value.int IntKind.u64 r7, Value.int IntKind.u32 r8, Value.int IntKind.u32 r9] 35) w <|
  fun (r_1 : Nat) (w_2 : World) =>
  new (Obj.cells #[Value.int IntKind.u32 counts0, Value.int IntKind.u32 counts1, Value.int IntKind.u32 counts2, Value.int IntKind.u32 counts3, Value.int IntKind.u32 counts4, Value.int IntKind.u32 counts5, Value.int IntKind.u32 counts6, Value.int IntKind.u32 counts7] 36) w_2 <|
  fun (r_3 : Nat) (w_4 : World) =>
  ldA (rcs1) ({ block := r_1, off := 0 }) w_4 <|
  fun (t_5 : Int × Sl × Sl × Sl × Int × Int × Int × Int × Int × Int) =>
  call Try.prog 12 ([Value.agg (List.toArray (HL.mk rcs1 t_5))]) ([Ty1.agg rcs2]) w_4 <|
  fun (t_6 : Int × Int × Int × Int × Int × Int × Int × Int) (w_7 : World) =>
  loop (Int × Int) (fun (X_8 : Int × Int → World → Prop) (t_9 : Int × Int) (w_10 : World) =>
    cond (decide (t_9.snd < 8))
      (join (Int) (fun (X_11 : Int → World → Prop) =>
        idxA (Cell.int IntKind.i64) 8 (HL.mk rcs2 t_6) t_9.snd <|
        fun (x_12 : Int) =>
        cond (decide (x_12 > 0))
          (chk (0 ≤ t_9.snd ∧ t_9.snd < (↑8 : Int)) <|
          ld (Cell.int IntKind.u32) (Addr.add { block := r_3, off := 0 } (Int.toNat t_9.snd * 1)) w_10 <|
          fun (x_13 : Int) =>
          call Try.prog 9 ([Value.int IntKind.i64 t_9.snd, Value.int IntKind.u64 (IntKind.wrap IntKind.u64 (IntKind.wrap IntKind.u64 x_13 + IntKind.wrap IntKind.u64 x_12))]) ([Ty1.one (Cell.int IntKind.i64)]) w_10 <|
          fun (x_14 : Int) (w_15 : World) =>
          X_11 (IntKind.wrap IntKind.i64 (t_9.fst + IntKind.wrap IntKind.i64 (x_12 * IntKind.wrap IntKind.i64 (IntKind.wrap IntKind.i64 (2 * x_14) + 1)))) w_15)
          (X_11 t_9.fst w_10)) <|
      fun (x_16 : Int) (w_17 : World) =>
      X_8 ((x_16, IntKind.wrap IntKind.i64 (t_9.snd + 1))) w_17)
      (cond (t_9.fst == 0)
        (K 0 w_10)
        (call Try.prog 32 ([Value.int IntKind.i64 (IntKind.wrap IntKind.i64 (blocks - 2))]) ([Ty1.one (Cell.int IntKind.i64)]) w_10 <|
        fun (x_18 : Int) (w_19 : World) =>
        K (IntKind.wrap IntKind.i64 (t_9.fst + x_18)) w_19))) ((0, 0)) w_7
def reserve_NeedA : List Ann := [.n, .n, .n, .n, .l [(7, .one (.int .i64)), (12, .one (.int .i64))], .n, .n, .j [(7, .one (.int .i64))], .n, .n, .n, .n, .n, .n]
theorem reserve_Need_of {r0 : Int} {r1 : Sl} {r2 : Sl} {r3 : Sl} {r4 : Int} {r5 : Int} {r6 : Int} {r7 : Int} {r8 : Int} {r9 : Int} {counts0 : Int} {counts1 : Int} {counts2 : Int} {counts3 : Int} {counts4 : Int} {counts5 : Int} {counts6 : Int} {counts7 : Int} {blocks : Int} {w : World} {K : Int → World → Prop} (hF : reserve_NeedF r0 r1 r2 r3 r4 r5 r6 r7 r8 r9 counts0 counts1 counts2 counts3 counts4 counts5 counts6 counts7 blocks K w) : call Try.prog 14 [.agg #[.int .i64 r0, .slice r1.a r1.len r1.cap, .slice r2.a r2.len r2.cap, .slice r3.a r3.len r3.cap, .int .u64 r4, .int .u64 r5, .int .u64 r6, .int .u64 r7, .int .u32 r8, .int .u32 r9], .agg #[.int .u32 counts0, .int .u32 counts1, .int .u32 counts2, .int .u32 counts3, .int .u32 counts4, .int .u32 counts5, .int .u32 counts6, .int .u32 counts7], .int .i64 blocks] [.one (.int .i64)] w K :=
  calls_of_fnPt (an := reserve_NeedA) (ts := [.one (.int .i64)]) (args := [.agg #[.int .i64 r0, .slice r1.a r1.len r1.cap, .slice r2.a r2.len r2.cap, .slice r3.a r3.len r3.cap, .int .u64 r4, .int .u64 r5, .int .u64 r6, .int .u64 r7, .int .u32 r8, .int .u32 r9], .agg #[.int .u32 counts0, .int .u32 counts1, .int .u32 counts2, .int .u32 counts3, .int .u32 counts4, .int .u32 counts5, .int .u32 counts6, .int .u32 counts7], .int .i64 blocks]) Try.func14 (by kernel_rfl) ((show fnPt (std Try.prog) Try.prog Try.f14 reserve_NeedA [.one (.int .i64)] [.agg #[.int .i64 r0, .slice r1.a r1.len r1.cap, .slice r2.a r2.len r2.cap, .slice r3.a r3.len r3.cap, .int .u64 r4, .int .u64 r5, .int .u64 r6, .int .u64 r7, .int .u32 r8, .int .u32 r9], .agg #[.int .u32 counts0, .int .u32 counts1, .int .u32 counts2, .int .u32 counts3, .int .u32 counts4, .int .u32 counts5, .int .u32 counts6, .int .u32 counts7], .int .i64 blocks] K w = reserve_NeedF r0 r1 r2 r3 r4 r5 r6 r7 r8 r9 counts0 counts1 counts2 counts3 counts4 counts5 counts6 counts7 blocks K w by kernel_rfl).mpr hF)

/-- cashbook.cashbookref27.Need -/
def cashbookref27_NeedF (r0 : Int) (r1 : Sl) (r2 : Sl) (r3 : Sl) (r4 : Int) (r5 : Int) (r6 : Int) (r7 : Int) (r8 : Int) (r9 : Int) (counts0 : Int) (counts1 : Int) (counts2 : Int) (counts3 : Int) (counts4 : Int) (counts5 : Int) (counts6 : Int) (counts7 : Int) (blocks : Int) (K : Int → World → Prop) (w : World) : Prop :=
  new (Obj.cells #[Value.int IntKind.i64 r0, Value.slice r1.a r1.len r1.cap, Value.slice r2.a r2.len r2.cap, Value.slice r3.a r3.len r3.cap, Value.int IntKind.u64 r4, Value.int IntKind.u64 r5, Value.int IntKind.u64 r6, Value.int IntKind.u64 r7, Value.int IntKind.u32 r8, Value.int IntKind.u32 r9] 35) w <|
  fun (r_1 : Nat) (w_2 : World) =>
  new (Obj.cells #[Value.int IntKind.u32 counts0, Value.int IntKind.u32 counts1, Value.int IntKind.u32 counts2, Value.int IntKind.u32 counts3, Value.int IntKind.u32 counts4, Value.int IntKind.u32 counts5, Value.int IntKind.u32 counts6, Value.int IntKind.u32 counts7] 36) w_2 <|
  fun (r_3 : Nat) (w_4 : World) =>
  ldA (rcs1) ({ block := r_1, off := 0 }) w_4 <|
  fun (t_5 : Int × Sl × Sl × Sl × Int × Int × Int × Int × Int × Int) =>
  call Try.prog 13 ([Value.agg (List.toArray (HL.mk rcs1 t_5))]) ([Ty1.agg rcs2]) w_4 <|
  fun (t_6 : Int × Int × Int × Int × Int × Int × Int × Int) (w_7 : World) =>
  new (Obj.cells #[Value.int IntKind.i64 0, Value.int IntKind.i64 0, Value.int IntKind.i64 0, Value.int IntKind.i64 0, Value.int IntKind.i64 0, Value.int IntKind.i64 0, Value.int IntKind.i64 0, Value.int IntKind.i64 0] 37) w_7 <|
  fun (r_8 : Nat) (w_9 : World) =>
  st ({ block := r_8, off := 0 }) (HL.mk rcs2 t_6) w_9 <|
  fun (w_10 : World) =>
  loop (Int × Int) (fun (X_11 : Int × Int → World → Prop) (t_12 : Int × Int) (w_13 : World) =>
    cond (decide (t_12.snd < 8))
      (loop (Int × Int) (fun (X_14 : Int × Int → World → Prop) (t_15 : Int × Int) (w_16 : World) =>
        chk (0 ≤ t_12.snd ∧ t_12.snd < (↑8 : Int)) <|
        ld (Cell.int IntKind.i64) (Addr.add { block := r_8, off := 0 } (Int.toNat t_12.snd * 1)) w_16 <|
        fun (x_17 : Int) =>
        cond (decide (t_15.snd < x_17))
          (chk (0 ≤ t_12.snd ∧ t_12.snd < (↑8 : Int)) <|
          ld (Cell.int IntKind.u32) (Addr.add { block := r_3, off := 0 } (Int.toNat t_12.snd * 1)) (World.drew w_16) <|
          fun (x_18 : Int) =>
          chk (0 ≤ t_12.snd ∧ t_12.snd < (↑8 : Int)) <|
          ld (Cell.int IntKind.i64) (Addr.add { block := r_8, off := 0 } (Int.toNat t_12.snd * 1)) (World.drew w_16) <|
          fun (x_19 : Int) =>
          call Try.prog 11 ([Value.int IntKind.i64 t_12.snd, Value.int IntKind.u64 (IntKind.wrap IntKind.u64 (IntKind.wrap IntKind.u64 x_18 + IntKind.wrap IntKind.u64 x_19))]) ([Ty1.one (Cell.int IntKind.i64)]) (World.drew w_16) <|
          fun (x_20 : Int) (w_21 : World) =>
          X_14 ((IntKind.wrap IntKind.i64 (IntKind.wrap IntKind.i64 (t_15.fst + IntKind.wrap IntKind.i64 (2 * x_20)) + 1), IntKind.wrap IntKind.i64 (t_15.snd + 1))) w_21)
          (X_11 ((t_15.fst, IntKind.wrap IntKind.i64 (t_12.snd + 1))) w_16)) ((t_12.fst, 0)) w_13)
      (cond (t_12.fst == 0)
        (K 0 w_13)
        (call Try.prog 33 ([Value.int IntKind.i64 (IntKind.wrap IntKind.i64 (blocks - 2))]) ([Ty1.one (Cell.int IntKind.i64)]) w_13 <|
        fun (x_22 : Int) (w_23 : World) =>
        K (IntKind.wrap IntKind.i64 (t_12.fst + x_22)) w_23))) ((0, 0)) w_10
def cashbookref27_NeedA : List Ann := [.n, .n, .n, .n, .n, .l [(8, .one (.int .i64)), (9, .one (.int .i64))], .n, .n, .n, .n, .l [(8, .one (.int .i64)), (10, .one (.int .i64))], .n, .n, .n, .o [[0, 1, 2, 3, 4, 5, 6, 7, 8, 9, 10, 11, 12, 13, 14, 15]], .n, .n, .n, .n]
theorem cashbookref27_Need_of {r0 : Int} {r1 : Sl} {r2 : Sl} {r3 : Sl} {r4 : Int} {r5 : Int} {r6 : Int} {r7 : Int} {r8 : Int} {r9 : Int} {counts0 : Int} {counts1 : Int} {counts2 : Int} {counts3 : Int} {counts4 : Int} {counts5 : Int} {counts6 : Int} {counts7 : Int} {blocks : Int} {w : World} {K : Int → World → Prop} (hF : cashbookref27_NeedF r0 r1 r2 r3 r4 r5 r6 r7 r8 r9 counts0 counts1 counts2 counts3 counts4 counts5 counts6 counts7 blocks K w) : call Try.prog 15 [.agg #[.int .i64 r0, .slice r1.a r1.len r1.cap, .slice r2.a r2.len r2.cap, .slice r3.a r3.len r3.cap, .int .u64 r4, .int .u64 r5, .int .u64 r6, .int .u64 r7, .int .u32 r8, .int .u32 r9], .agg #[.int .u32 counts0, .int .u32 counts1, .int .u32 counts2, .int .u32 counts3, .int .u32 counts4, .int .u32 counts5, .int .u32 counts6, .int .u32 counts7], .int .i64 blocks] [.one (.int .i64)] w K :=
  calls_of_fnPt (an := cashbookref27_NeedA) (ts := [.one (.int .i64)]) (args := [.agg #[.int .i64 r0, .slice r1.a r1.len r1.cap, .slice r2.a r2.len r2.cap, .slice r3.a r3.len r3.cap, .int .u64 r4, .int .u64 r5, .int .u64 r6, .int .u64 r7, .int .u32 r8, .int .u32 r9], .agg #[.int .u32 counts0, .int .u32 counts1, .int .u32 counts2, .int .u32 counts3, .int .u32 counts4, .int .u32 counts5, .int .u32 counts6, .int .u32 counts7], .int .i64 blocks]) Try.func15 (by kernel_rfl) ((show fnPt (std Try.prog) Try.prog Try.f15 cashbookref27_NeedA [.one (.int .i64)] [.agg #[.int .i64 r0, .slice r1.a r1.len r1.cap, .slice r2.a r2.len r2.cap, .slice r3.a r3.len r3.cap, .int .u64 r4, .int .u64 r5, .int .u64 r6, .int .u64 r7, .int .u32 r8, .int .u32 r9], .agg #[.int .u32 counts0, .int .u32 counts1, .int .u32 counts2, .int .u32 counts3, .int .u32 counts4, .int .u32 counts5, .int .u32 counts6, .int .u32 counts7], .int .i64 blocks] K w = cashbookref27_NeedF r0 r1 r2 r3 r4 r5 r6 r7 r8 r9 counts0 counts1 counts2 counts3 counts4 counts5 counts6 counts7 blocks K w by kernel_rfl).mpr hF)

/-- cashbook.tree.Shape -/
def tree_ShapeF (t : Int) (K : (Int × Int) → World → Prop) (w : World) : Prop :=
  cond (t == 0)
    (K ((16, 88)) w)
    (cond (t == 1)
      (K ((16, 108)) w)
      (cond (t == 2)
        (K ((16, 1)) w)
        (cond (t == 3)
          (K ((16, 16)) w)
          (join (Bool) (fun (X_1 : Bool → World → Prop) =>
            cond (t == 4)
              (X_1 (t == 4) w)
              (X_1 (t == 5) w)) <|
          fun (b_2 : Bool) (w_3 : World) =>
          cond b_2
            (K ((24, 16)) w_3)
            (cond (t == 6)
              (K ((24, 65)) w_3)
              (cond (t == 7)
                (K ((1, 8)) w_3)
                (K ((0, 0)) w_3)))))))
def tree_ShapeA : List Ann := [.n, .n, .n, .n, .n, .n, .n, .n, .n, .n, .n, .j [(13, .one .bool)], .n, .n, .n, .n, .n, .n, .n]
theorem tree_Shape_of {t : Int} {w : World} {K : (Int × Int) → World → Prop} (hF : tree_ShapeF t K w) : call Try.prog 27 [.int .i64 t] [.one (.int .i64), .one (.int .i64)] w K :=
  calls_of_fnPt (an := tree_ShapeA) (ts := [.one (.int .i64), .one (.int .i64)]) (args := [.int .i64 t]) Try.func27 (by kernel_rfl) ((show fnPt (std Try.prog) Try.prog Try.f27 tree_ShapeA [.one (.int .i64), .one (.int .i64)] [.int .i64 t] K w = tree_ShapeF t K w by kernel_rfl).mpr hF)

/-- cashbook.node.Caps -/
def node_CapsF (k : Int) (v : Int) (K : (Int × Int) → World → Prop) (w : World) : Prop :=
  join (Bool) (fun (X_1 : Bool → World → Prop) =>
    cond (decide (k < 1))
      (X_1 true w)
      (cond (decide (k > 24))
        (X_1 true w)
        (cond (decide (v < 0))
          (X_1 true w)
          (X_1 (decide (v > 108)) w)))) <|
  fun (b_2 : Bool) (w_3 : World) =>
  cond b_2
    (K ((0, 0)) w_3)
    (chk (IntKind.wrap IntKind.i64 (k + v) ≠ 0) <|
    chk (IntKind.wrap IntKind.i64 (4 + k) ≠ 0) <|
    K ((IntKind.wrap IntKind.i64 (Int.tdiv 498 (IntKind.wrap IntKind.i64 (k + v))), IntKind.wrap IntKind.i64 (Int.tdiv (IntKind.wrap IntKind.i64 (498 + k)) (IntKind.wrap IntKind.i64 (4 + k))))) (World.drew w_3))
def node_CapsA : List Ann := [.n, .n, .j [(20, .one .bool)], .n, .n, .n, .o [[0, 1, 2, 3, 4, 5, 6, 7, 8, 9, 10, 11, 12]]]
theorem node_Caps_of {k : Int} {v : Int} {w : World} {K : (Int × Int) → World → Prop} (hF : node_CapsF k v K w) : call Try.prog 28 [.int .i64 k, .int .i64 v] [.one (.int .i64), .one (.int .i64)] w K :=
  calls_of_fnPt (an := node_CapsA) (ts := [.one (.int .i64), .one (.int .i64)]) (args := [.int .i64 k, .int .i64 v]) Try.func28 (by kernel_rfl) ((show fnPt (std Try.prog) Try.prog Try.f28 node_CapsA [.one (.int .i64), .one (.int .i64)] [.int .i64 k, .int .i64 v] K w = node_CapsF k v K w by kernel_rfl).mpr hF)

/-- cashbook.cashbookref12.Shape -/
def cashbookref12_ShapeF (t : Int) (K : (Int × Int) → World → Prop) (w : World) : Prop :=
  cond (t == 0)
    (K ((16, 88)) w)
    (cond (t == 1)
      (K ((16, 108)) w)
      (cond (t == 2)
        (K ((16, 1)) w)
        (cond (t == 3)
          (K ((16, 16)) w)
          (join (Bool) (fun (X_1 : Bool → World → Prop) =>
            cond (t == 4)
              (X_1 true w)
              (X_1 (t == 5) w)) <|
          fun (b_2 : Bool) (w_3 : World) =>
          cond b_2
            (K ((24, 16)) w_3)
            (cond (t == 6)
              (K ((24, 65)) w_3)
              (cond (t == 7)
                (K ((1, 8)) w_3)
                (K ((0, 0)) w_3)))))))
def cashbookref12_ShapeA : List Ann := [.n, .n, .n, .n, .n, .n, .n, .n, .n, .n, .n, .n, .n, .n, .j [(17, .one .bool)], .n, .n, .n, .n, .n, .n, .n, .n]
theorem cashbookref12_Shape_of {t : Int} {w : World} {K : (Int × Int) → World → Prop} (hF : cashbookref12_ShapeF t K w) : call Try.prog 29 [.int .i64 t] [.one (.int .i64), .one (.int .i64)] w K :=
  calls_of_fnPt (an := cashbookref12_ShapeA) (ts := [.one (.int .i64), .one (.int .i64)]) (args := [.int .i64 t]) Try.func29 (by kernel_rfl) ((show fnPt (std Try.prog) Try.prog Try.f29 cashbookref12_ShapeA [.one (.int .i64), .one (.int .i64)] [.int .i64 t] K w = cashbookref12_ShapeF t K w by kernel_rfl).mpr hF)

/-- cashbook.cashbookref11.Caps -/
def cashbookref11_CapsF (k : Int) (v : Int) (K : (Int × Int) → World → Prop) (w : World) : Prop :=
  join (Bool) (fun (X_1 : Bool → World → Prop) =>
    cond (decide (k < 1))
      (X_1 true w)
      (cond (decide (k > 24))
        (X_1 true w)
        (cond (decide (v < 0))
          (X_1 true w)
          (X_1 (decide (v > 108)) w)))) <|
  fun (b_2 : Bool) (w_3 : World) =>
  cond b_2
    (K ((0, 0)) w_3)
    (loop (Int) (fun (X_4 : Int → World → Prop) (x_5 : Int) (w_6 : World) =>
      cond (decide (IntKind.wrap IntKind.i64 (2 + IntKind.wrap IntKind.i64 (IntKind.wrap IntKind.i64 (x_5 + 1) * IntKind.wrap IntKind.i64 (k + v))) ≤ 500))
        (X_4 (IntKind.wrap IntKind.i64 (x_5 + 1)) w_6)
        (loop (Int) (fun (X_7 : Int → World → Prop) (x_8 : Int) (w_9 : World) =>
          cond (decide (IntKind.wrap IntKind.i64 (IntKind.wrap IntKind.i64 (2 + IntKind.wrap IntKind.i64 (4 * IntKind.wrap IntKind.i64 (x_8 + 1))) + IntKind.wrap IntKind.i64 (k * x_8)) ≤ 500))
            (X_7 (IntKind.wrap IntKind.i64 (x_8 + 1)) w_9)
            (K ((x_5, x_8)) w_9)) 1 w_6)) 0 w_3)
def cashbookref11_CapsA : List Ann := [.n, .n, .j [(21, .one .bool)], .n, .n, .n, .l [(6, .one (.int .i64))], .n, .n, .n, .l [(7, .one (.int .i64))], .n, .n, .n]
theorem cashbookref11_Caps_of {k : Int} {v : Int} {w : World} {K : (Int × Int) → World → Prop} (hF : cashbookref11_CapsF k v K w) : call Try.prog 30 [.int .i64 k, .int .i64 v] [.one (.int .i64), .one (.int .i64)] w K :=
  calls_of_fnPt (an := cashbookref11_CapsA) (ts := [.one (.int .i64), .one (.int .i64)]) (args := [.int .i64 k, .int .i64 v]) Try.func30 (by kernel_rfl) ((show fnPt (std Try.prog) Try.prog Try.f30 cashbookref11_CapsA [.one (.int .i64), .one (.int .i64)] [.int .i64 k, .int .i64 v] K w = cashbookref11_CapsF k v K w by kernel_rfl).mpr hF)

/-- cashbook.reserve.times -/
def reserve_timesF (kind : Int) (K : ((Int × Int × Int × Int × Int × Int × Int × Int) × Int) → World → Prop) (w : World) : Prop :=
  new (Obj.cells #[Value.int IntKind.i64 0, Value.int IntKind.i64 0, Value.int IntKind.i64 0, Value.int IntKind.i64 0, Value.int IntKind.i64 0, Value.int IntKind.i64 0, Value.int IntKind.i64 0, Value.int IntKind.i64 0] 37) w <|
  fun (r_1 : Nat) (w_2 : World) =>
  new (Obj.cells #[Value.int IntKind.i64 1, Value.int IntKind.i64 0, Value.int IntKind.i64 1, Value.int IntKind.i64 0, Value.int IntKind.i64 0, Value.int IntKind.i64 0, Value.int IntKind.i64 0, Value.int IntKind.i64 0, Value.int IntKind.i64 0, Value.int IntKind.i64 0, Value.int IntKind.i64 2, Value.int IntKind.i64 0, Value.int IntKind.i64 2, Value.int IntKind.i64 1, Value.int IntKind.i64 1, Value.int IntKind.i64 1, Value.int IntKind.i64 1, Value.int IntKind.i64 1, Value.int IntKind.i64 2, Value.int IntKind.i64 0, Value.int IntKind.i64 7, Value.int IntKind.i64 16, Value.int IntKind.i64 2, Value.int IntKind.i64 0, Value.int IntKind.i64 1, Value.int IntKind.i64 1, Value.int IntKind.i64 0, Value.int IntKind.i64 0, Value.int IntKind.i64 2, Value.int IntKind.i64 0] 76) w_2 <|
  fun (r_3 : Nat) (w_4 : World) =>
  loop (Int) (fun (X_5 : Int → World → Prop) (x_6 : Int) (w_7 : World) =>
    cond (decide (x_6 < (↑3 : Int)))
      (idx ({ a := some { block := r_3, off := 0 }, len := 3, cap := 3 }) x_6 10 <|
      fun (a_8 : Addr) =>
      ldA (rcs4) a_8 w_7 <|
      fun (t_9 : Int × Int × Int × Int × Int × Int × Int × Int × Int × Int) =>
      new (Obj.cells #[Value.int IntKind.i64 0, Value.int IntKind.i64 0, Value.int IntKind.i64 0, Value.int IntKind.i64 0, Value.int IntKind.i64 0, Value.int IntKind.i64 0, Value.int IntKind.i64 0, Value.int IntKind.i64 0, Value.int IntKind.i64 0, Value.int IntKind.i64 0] 76) w_7 <|
      fun (r_10 : Nat) (w_11 : World) =>
      st ({ block := r_10, off := 0 }) (HL.mk rcs4 t_9) w_11 <|
      fun (w_12 : World) =>
      ld (Cell.int IntKind.i64) ({ block := r_10, off := 0 }) w_12 <|
      fun (x_13 : Int) =>
      cond (x_13 == kind)
        (ldA (rcs2) ({ block := r_10, off := 2 }) (World.drew w_12) <|
        fun (t_14 : Int × Int × Int × Int × Int × Int × Int × Int) =>
        ld (Cell.int IntKind.i64) ({ block := r_10, off := 1 }) (World.drew w_12) <|
        fun (x_15 : Int) =>
        st ({ block := r_1, off := 0 }) (HL.mk rcs2 t_14) (World.drew w_12) <|
        fun (w_16 : World) =>
        held [fun (w_17 : Go.World) => World.cell? w_17 ({ block := r_10, off := 1 }) = some (Value.int IntKind.i64 x_15)] w_16 <|
        ldA (rcs2) ({ block := r_1, off := 0 }) w_16 <|
        fun (t_18 : Int × Int × Int × Int × Int × Int × Int × Int) =>
        K ((t_18, x_15)) w_16)
        (X_5 (IntKind.wrap IntKind.i64 (x_6 + 1)) w_12))
      (st ({ block := r_1, off := 0 }) ([Value.int IntKind.i64 0, Value.int IntKind.i64 0, Value.int IntKind.i64 0, Value.int IntKind.i64 0, Value.int IntKind.i64 0, Value.int IntKind.i64 0, Value.int IntKind.i64 0, Value.int IntKind.i64 0]) w_7 <|
      fun (w_19 : World) =>
      ldA (rcs2) ({ block := r_1, off := 0 }) w_19 <|
      fun (t_20 : Int × Int × Int × Int × Int × Int × Int × Int) =>
      K ((t_20, 0)) w_19)) 0 w_4
def reserve_timesA : List Ann := [.n, .n, .n, .l [(14, .one (.int .i64))], .n, .n, .n, .n, .n, .n, .o [[0, 1, 2, 3, 4, 5]], .n]
theorem reserve_times_of {kind : Int} {w : World} {K : ((Int × Int × Int × Int × Int × Int × Int × Int) × Int) → World → Prop} (hF : reserve_timesF kind K w) : call Try.prog 31 [.int .i64 kind] [.agg [.int .i64, .int .i64, .int .i64, .int .i64, .int .i64, .int .i64, .int .i64, .int .i64], .one (.int .i64)] w K :=
  calls_of_fnPt (an := reserve_timesA) (ts := [.agg [.int .i64, .int .i64, .int .i64, .int .i64, .int .i64, .int .i64, .int .i64, .int .i64], .one (.int .i64)]) (args := [.int .i64 kind]) Try.func31 (by kernel_rfl) ((show fnPt (std Try.prog) Try.prog Try.f31 reserve_timesA [.agg [.int .i64, .int .i64, .int .i64, .int .i64, .int .i64, .int .i64, .int .i64, .int .i64], .one (.int .i64)] [.int .i64 kind] K w = reserve_timesF kind K w by kernel_rfl).mpr hF)

/-- cashbook.freelist.Need -/
def freelist_NeedF (free : Int) (K : Int → World → Prop) (w : World) : Prop :=
  cond (decide (free < 1))
    (K 0 w)
    (K (IntKind.wrap IntKind.i64 (IntKind.wrap IntKind.i64 (Int.tdiv (IntKind.wrap IntKind.i64 (free - 1)) 124) + 1)) w)
def freelist_NeedA : List Ann := [.n, .n, .n, .n, .n]
theorem freelist_Need_of {free : Int} {w : World} {K : Int → World → Prop} (hF : freelist_NeedF free K w) : call Try.prog 32 [.int .i64 free] [.one (.int .i64)] w K :=
  calls_of_fnPt (an := freelist_NeedA) (ts := [.one (.int .i64)]) (args := [.int .i64 free]) Try.func32 (by kernel_rfl) ((show fnPt (std Try.prog) Try.prog Try.f32 freelist_NeedA [.one (.int .i64)] [.int .i64 free] K w = freelist_NeedF free K w by kernel_rfl).mpr hF)

/-- cashbook.cashbookref09.Need -/
def cashbookref09_NeedF (free : Int) (K : Int → World → Prop) (w : World) : Prop :=
  loop (Int) (fun (X_1 : Int → World → Prop) (x_2 : Int) (w_3 : World) =>
    join (Bool) (fun (X_4 : Bool → World → Prop) =>
      cond (decide (free > 0))
        (cond (decide (IntKind.wrap IntKind.i64 (123 * x_2) < IntKind.wrap IntKind.i64 (free - x_2)))
          (X_4 (decide (x_2 < 1000000)) w_3)
          (X_4 false w_3))
        (X_4 false w_3)) <|
    fun (b_5 : Bool) (w_6 : World) =>
    cond b_5
      (X_1 (IntKind.wrap IntKind.i64 (x_2 + 1)) w_6)
      (K x_2 w_6)) 0 w
def cashbookref09_NeedA : List Ann := [.n, .n, .n, .l [(3, .one (.int .i64))], .n, .j [(17, .one .bool)], .n]
theorem cashbookref09_Need_of {free : Int} {w : World} {K : Int → World → Prop} (hF : cashbookref09_NeedF free K w) : call Try.prog 33 [.int .i64 free] [.one (.int .i64)] w K :=
  calls_of_fnPt (an := cashbookref09_NeedA) (ts := [.one (.int .i64)]) (args := [.int .i64 free]) Try.func33 (by kernel_rfl) ((show fnPt (std Try.prog) Try.prog Try.f33 cashbookref09_NeedA [.one (.int .i64)] [.int .i64 free] K w = cashbookref09_NeedF free K w by kernel_rfl).mpr hF)

end Go.Proofs.Ytmmldfipakcmaaa
