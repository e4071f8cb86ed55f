/- The readable forms of functions of the program, each shown to be what the evaluator gives: printed by a program of this claim (wip/tools). No condition. -/
import Derived.Test.YtmmldfipakcmaaaPtG
import Derived.Test.YtmmldfipakcmaaaProg
import Derived.KernelRfl
set_option linter.unusedVariables false
set_option maxRecDepth 100000
namespace Go.Proofs.Ytmmldfipakcmaaa
open Go Go.Pt

/-- slices.Sort   uint32,uint32  -/
def slices_SortF (x : Sl) (K : Unit → World → Prop) (w : World) : Prop :=
  call Try.prog 40 ([Value.int IntKind.u64 (IntKind.wrap IntKind.u64 (↑x.len : Int))]) ([Ty1.one (Cell.int IntKind.i64)]) w <|
  fun (x_1 : Int) (w_2 : World) =>
  call Try.prog 39 ([Value.slice x.a x.len x.cap, Value.int IntKind.i64 0, Value.int IntKind.i64 (↑x.len : Int), Value.int IntKind.i64 x_1]) [] w_2 <|
  fun (x_3 : PUnit) (w_4 : World) =>
  K () w_4
def slices_SortA : List Ann := [.n]
theorem slices_Sort_of {x : Sl} {w : World} {K : Unit → World → Prop} (hF : slices_SortF x K w) : call Try.prog 36 [.slice x.a x.len x.cap] [] w K :=
  calls_of_fnPt (an := slices_SortA) (ts := []) (args := [.slice x.a x.len x.cap]) Try.func36 (by kernel_rfl) ((show fnPt (std Try.prog) Try.prog Try.f36 slices_SortA [] [.slice x.a x.len x.cap] K w = slices_SortF x K w by kernel_rfl).mpr hF)

/-- slices.pdqsortOrdered uint32  -/
def slices_pdqsortOrderedF (data : Sl) (a : Int) (b : Int) (limit : Int) (K : Unit → World → Prop) (w : World) : Prop :=
  loop (Int × Int × Int × Bool × Bool) (fun (X_1 : Int × Int × Int × Bool × Bool → World → Prop) (t_2 : Int × Int × Int × Bool × Bool) (w_3 : World) =>
    cond (decide (IntKind.wrap IntKind.i64 (t_2.snd.fst - t_2.fst) ≤ 12))
      (call Try.prog 43 ([Value.slice data.a data.len data.cap, Value.int IntKind.i64 t_2.fst, Value.int IntKind.i64 t_2.snd.fst]) [] w_3 <|
      fun (x_4 : PUnit) (w_5 : World) =>
      K () w_5)
      (cond (t_2.snd.snd.fst == 0)
        (call Try.prog 44 ([Value.slice data.a data.len data.cap, Value.int IntKind.i64 t_2.fst, Value.int IntKind.i64 t_2.snd.fst]) [] w_3 <|
        fun (x_6 : PUnit) (w_7 : World) =>
        K () w_7)
        (join (Int) (fun (X_8 : Int → World → Prop) =>
          cond (!t_2.snd.snd.snd.fst)
            (call Try.prog 45 ([Value.slice data.a data.len data.cap, Value.int IntKind.i64 t_2.fst, Value.int IntKind.i64 t_2.snd.fst]) [] w_3 <|
            fun (x_9 : PUnit) (w_10 : World) =>
            X_8 (IntKind.wrap IntKind.i64 (t_2.snd.snd.fst - 1)) w_10)
            (X_8 t_2.snd.snd.fst w_3)) <|
        fun (x_11 : Int) (w_12 : World) =>
        call Try.prog 46 ([Value.slice data.a data.len data.cap, Value.int IntKind.i64 t_2.fst, Value.int IntKind.i64 t_2.snd.fst]) ([Ty1.one (Cell.int IntKind.i64), Ty1.one (Cell.int IntKind.i64)]) w_12 <|
        fun (t_13 : Int × Int) (w_14 : World) =>
        join (Int × Int) (fun (X_15 : Int × Int → World → Prop) =>
          cond (t_13.snd == 2)
            (call Try.prog 47 ([Value.slice data.a data.len data.cap, Value.int IntKind.i64 t_2.fst, Value.int IntKind.i64 t_2.snd.fst]) [] w_14 <|
            fun (x_16 : PUnit) (w_17 : World) =>
            X_15 ((IntKind.wrap IntKind.i64 (IntKind.wrap IntKind.i64 (t_2.snd.fst - 1) - IntKind.wrap IntKind.i64 (t_13.fst - t_2.fst)), 1)) w_17)
            (X_15 t_13 w_14)) <|
        fun (t_18 : Int × Int) (w_19 : World) =>
        join (PUnit) (fun (X_20 : PUnit → World → Prop) =>
          join (Bool) (fun (X_21 : Bool → World → Prop) =>
            cond t_2.snd.snd.snd.fst
              (cond t_2.snd.snd.snd.snd
                (X_21 (t_18.snd == 1) w_19)
                (X_21 false w_19))
              (X_21 false w_19)) <|
          fun (b_22 : Bool) (w_23 : World) =>
          cond b_22
            (call Try.prog 48 ([Value.slice data.a data.len data.cap, Value.int IntKind.i64 t_2.fst, Value.int IntKind.i64 t_2.snd.fst]) ([Ty1.one Cell.bool]) w_23 <|
            fun (b_24 : Bool) (w_25 : World) =>
            cond b_24
              (K () w_25)
              (X_20 () w_25))
            (X_20 () w_23)) <|
        fun (x_26 : PUnit) (w_27 : World) =>
        join (Bool) (fun (X_28 : Bool → World → Prop) =>
          cond (decide (t_2.fst > 0))
            (idx data (IntKind.wrap IntKind.i64 (t_2.fst - 1)) 1 <|
            fun (a_29 : Addr) =>
            ld (Cell.int IntKind.u32) a_29 (World.drew w_27) <|
            fun (x_30 : Int) =>
            idx data t_18.fst 1 <|
            fun (a_31 : Addr) =>
            ld (Cell.int IntKind.u32) a_31 (World.drew w_27) <|
            fun (x_32 : Int) =>
            call Try.prog 49 ([Value.int IntKind.u32 x_30, Value.int IntKind.u32 x_32]) ([Ty1.one Cell.bool]) (World.drew w_27) <|
            fun (b_33 : Bool) (w_34 : World) =>
            X_28 (!b_33) w_34)
            (X_28 false (World.drew w_27))) <|
        fun (b_35 : Bool) (w_36 : World) =>
        cond b_35
          (call Try.prog 50 ([Value.slice data.a data.len data.cap, Value.int IntKind.i64 t_2.fst, Value.int IntKind.i64 t_2.snd.fst, Value.int IntKind.i64 t_18.fst]) ([Ty1.one (Cell.int IntKind.i64)]) w_36 <|
          fun (x_37 : Int) (w_38 : World) =>
          X_1 ((x_37, t_2.snd.fst, x_11, t_2.snd.snd.snd)) w_38)
          (call Try.prog 51 ([Value.slice data.a data.len data.cap, Value.int IntKind.i64 t_2.fst, Value.int IntKind.i64 t_2.snd.fst, Value.int IntKind.i64 t_18.fst]) ([Ty1.one (Cell.int IntKind.i64), Ty1.one Cell.bool]) w_36 <|
          fun (t_39 : Int × Bool) (w_40 : World) =>
          cond (decide (IntKind.wrap IntKind.i64 (t_39.fst - t_2.fst) < IntKind.wrap IntKind.i64 (t_2.snd.fst - t_39.fst)))
            (call Try.prog 39 ([Value.slice data.a data.len data.cap, Value.int IntKind.i64 t_2.fst, Value.int IntKind.i64 t_39.fst, Value.int IntKind.i64 x_11]) [] w_40 <|
            fun (x_41 : PUnit) (w_42 : World) =>
            X_1 ((IntKind.wrap IntKind.i64 (t_39.fst + 1), t_2.snd.fst, x_11, decide (IntKind.wrap IntKind.i64 (t_39.fst - t_2.fst) ≥ IntKind.wrap IntKind.i64 (Int.tdiv (IntKind.wrap IntKind.i64 (t_2.snd.fst - t_2.fst)) 8)), t_39.snd)) w_42)
            (call Try.prog 39 ([Value.slice data.a data.len data.cap, Value.int IntKind.i64 (IntKind.wrap IntKind.i64 (t_39.fst + 1)), Value.int IntKind.i64 t_2.snd.fst, Value.int IntKind.i64 x_11]) [] w_40 <|
            fun (x_43 : PUnit) (w_44 : World) =>
            X_1 ((t_2.fst, t_39.fst, x_11, decide (IntKind.wrap IntKind.i64 (t_2.snd.fst - t_39.fst) ≥ IntKind.wrap IntKind.i64 (Int.tdiv (IntKind.wrap IntKind.i64 (t_2.snd.fst - t_2.fst)) 8)), t_39.snd)) w_44))))) ((a, b, limit, true, true)) w
def slices_pdqsortOrderedA : List Ann := [.n, .n, .l [(1, .one (.int .i64)), (2, .one (.int .i64)), (3, .one (.int .i64)), (8, .one .bool), (9, .one .bool)], .n, .n, .n, .n, .n, .n, .n, .j [(3, .one (.int .i64))], .n, .n, .n, .j [(11, .one (.int .i64)), (12, .one (.int .i64))], .n, .n, .n, .j [], .j [(68, .one .bool)], .n, .n, .j [(87, .one .bool)], .o [[0, 1, 2, 3, 4, 5, 6, 7, 8, 9, 10, 11, 12, 13, 14]], .n, .n, .n, .n, .n, .n, .n, .n, .n, .n, .n]
theorem slices_pdqsortOrdered_of {data : Sl} {a : Int} {b : Int} {limit : Int} {w : World} {K : Unit → World → Prop} (hF : slices_pdqsortOrderedF data a b limit K w) : call Try.prog 39 [.slice data.a data.len data.cap, .int .i64 a, .int .i64 b, .int .i64 limit] [] w K :=
  calls_of_fnPt (an := slices_pdqsortOrderedA) (ts := []) (args := [.slice data.a data.len data.cap, .int .i64 a, .int .i64 b, .int .i64 limit]) Try.func39 (by kernel_rfl) ((show fnPt (std Try.prog) Try.prog Try.f39 slices_pdqsortOrderedA [] [.slice data.a data.len data.cap, .int .i64 a, .int .i64 b, .int .i64 limit] K w = slices_pdqsortOrderedF data a b limit K w by kernel_rfl).mpr hF)

/-- math.bits.Len -/
def bits_LenF (x : Int) (K : Int → World → Prop) (w : World) : Prop :=
  call Try.prog 53 ([Value.int IntKind.u64 x]) ([Ty1.one (Cell.int IntKind.i64)]) w <|
  fun (x_1 : Int) (w_2 : World) =>
  K x_1 w_2
def bits_LenA : List Ann := [.n, .n, .n, .n]
theorem bits_Len_of {x : Int} {w : World} {K : Int → World → Prop} (hF : bits_LenF x K w) : call Try.prog 40 [.int .u64 x] [.one (.int .i64)] w K :=
  calls_of_fnPt (an := bits_LenA) (ts := [.one (.int .i64)]) (args := [.int .u64 x]) Try.func40 (by kernel_rfl) ((show fnPt (std Try.prog) Try.prog Try.f40 bits_LenA [.one (.int .i64)] [.int .u64 x] K w = bits_LenF x K w by kernel_rfl).mpr hF)

/-- slices.insertionSortOrdered uint32  -/
def slices_insertionSortOrderedF (data : Sl) (a : Int) (b : Int) (K : Unit → World → Prop) (w : World) : Prop :=
  loop (Int) (fun (X_1 : Int → World → Prop) (x_2 : Int) (w_3 : World) =>
    cond (decide (x_2 < b))
      (loop (Int) (fun (X_4 : Int → World → Prop) (x_5 : Int) (w_6 : World) =>
        join (Bool) (fun (X_7 : Bool → World → Prop) =>
          cond (decide (x_5 > a))
            (idx data x_5 1 <|
            fun (a_8 : Addr) =>
            ld (Cell.int IntKind.u32) a_8 (World.drew w_6) <|
            fun (x_9 : Int) =>
            idx data (IntKind.wrap IntKind.i64 (x_5 - 1)) 1 <|
            fun (a_10 : Addr) =>
            ld (Cell.int IntKind.u32) a_10 (World.drew w_6) <|
            fun (x_11 : Int) =>
            call Try.prog 49 ([Value.int IntKind.u32 x_9, Value.int IntKind.u32 x_11]) ([Ty1.one Cell.bool]) (World.drew w_6) <|
            fun (b_12 : Bool) (w_13 : World) =>
            X_7 b_12 w_13)
            (X_7 false (World.drew w_6))) <|
        fun (b_14 : Bool) (w_15 : World) =>
        cond b_14
          (idx data (IntKind.wrap IntKind.i64 (x_5 - 1)) 1 <|
          fun (a_16 : Addr) =>
          ld (Cell.int IntKind.u32) a_16 (World.drew w_15) <|
          fun (x_17 : Int) =>
          idx data x_5 1 <|
          fun (a_18 : Addr) =>
          ld (Cell.int IntKind.u32) a_18 (World.drew w_15) <|
          fun (x_19 : Int) =>
          idx data x_5 1 <|
          fun (a_20 : Addr) =>
          st a_20 ([Value.int IntKind.u32 x_17]) (World.drew w_15) <|
          fun (w_21 : World) =>
          idx data (IntKind.wrap IntKind.i64 (x_5 - 1)) 1 <|
          fun (a_22 : Addr) =>
          st a_22 ([Value.int IntKind.u32 x_19]) w_21 <|
          fun (w_23 : World) =>
          X_4 (IntKind.wrap IntKind.i64 (x_5 - 1)) w_23)
          (X_1 (IntKind.wrap IntKind.i64 (x_2 + 1)) w_15)) x_2 w_3)
      (K () w_3)) (IntKind.wrap IntKind.i64 (a + 1)) w
def slices_insertionSortOrderedA : List Ann := [.n, .l [(6, .one (.int .i64))], .n, .n, .n, .n, .l [(7, .one (.int .i64))], .n, .j [(30, .one .bool)], .o [[0, 1, 2, 3, 4, 5, 6, 7, 8, 9, 10, 11, 12, 13, 14]], .n, .o [[0, 1, 2, 3, 4, 5, 6, 7, 8, 9, 10, 11, 12, 13, 14, 15, 16, 17]]]
theorem slices_insertionSortOrdered_of {data : Sl} {a : Int} {b : Int} {w : World} {K : Unit → World → Prop} (hF : slices_insertionSortOrderedF data a b K w) : call Try.prog 43 [.slice data.a data.len data.cap, .int .i64 a, .int .i64 b] [] w K :=
  calls_of_fnPt (an := slices_insertionSortOrderedA) (ts := []) (args := [.slice data.a data.len data.cap, .int .i64 a, .int .i64 b]) Try.func43 (by kernel_rfl) ((show fnPt (std Try.prog) Try.prog Try.f43 slices_insertionSortOrderedA [] [.slice data.a data.len data.cap, .int .i64 a, .int .i64 b] K w = slices_insertionSortOrderedF data a b K w by kernel_rfl).mpr hF)

/-- slices.heapSortOrdered uint32  -/
def slices_heapSortOrderedF (data : Sl) (a : Int) (b : Int) (K : Unit → World → Prop) (w : World) : Prop :=
  loop (Int) (fun (X_1 : Int → World → Prop) (x_2 : Int) (w_3 : World) =>
    cond (decide (x_2 ≥ 0))
      (call Try.prog 54 ([Value.slice data.a data.len data.cap, Value.int IntKind.i64 x_2, Value.int IntKind.i64 (IntKind.wrap IntKind.i64 (b - a)), Value.int IntKind.i64 a]) [] w_3 <|
      fun (x_4 : PUnit) (w_5 : World) =>
      X_1 (IntKind.wrap IntKind.i64 (x_2 - 1)) w_5)
      (loop (Int) (fun (X_6 : Int → World → Prop) (x_7 : Int) (w_8 : World) =>
        cond (decide (x_7 ≥ 0))
          (idx data (IntKind.wrap IntKind.i64 (a + x_7)) 1 <|
          fun (a_9 : Addr) =>
          ld (Cell.int IntKind.u32) a_9 (World.drew w_8) <|
          fun (x_10 : Int) =>
          idx data a 1 <|
          fun (a_11 : Addr) =>
          ld (Cell.int IntKind.u32) a_11 (World.drew w_8) <|
          fun (x_12 : Int) =>
          idx data a 1 <|
          fun (a_13 : Addr) =>
          st a_13 ([Value.int IntKind.u32 x_10]) (World.drew w_8) <|
          fun (w_14 : World) =>
          idx data (IntKind.wrap IntKind.i64 (a + x_7)) 1 <|
          fun (a_15 : Addr) =>
          st a_15 ([Value.int IntKind.u32 x_12]) w_14 <|
          fun (w_16 : World) =>
          call Try.prog 54 ([Value.slice data.a data.len data.cap, Value.int IntKind.i64 0, Value.int IntKind.i64 x_7, Value.int IntKind.i64 a]) [] w_16 <|
          fun (x_17 : PUnit) (w_18 : World) =>
          X_6 (IntKind.wrap IntKind.i64 (x_7 - 1)) w_18)
          (K () w_8)) (IntKind.wrap IntKind.i64 (IntKind.wrap IntKind.i64 (b - a) - 1)) w_3)) (IntKind.wrap IntKind.i64 (Int.tdiv (IntKind.wrap IntKind.i64 (IntKind.wrap IntKind.i64 (b - a) - 1)) 2)) w
def slices_heapSortOrderedA : List Ann := [.n, .n, .n, .n, .n, .l [(9, .one (.int .i64))], .n, .n, .n, .n, .l [(10, .one (.int .i64))], .n, .n, .n, .n, .o [[0, 1, 2, 3, 4, 5, 6, 7, 8, 9, 10, 11, 12, 13, 14, 15, 16, 17, 18, 19]]]
theorem slices_heapSortOrdered_of {data : Sl} {a : Int} {b : Int} {w : World} {K : Unit → World → Prop} (hF : slices_heapSortOrderedF data a b K w) : call Try.prog 44 [.slice data.a data.len data.cap, .int .i64 a, .int .i64 b] [] w K :=
  calls_of_fnPt (an := slices_heapSortOrderedA) (ts := []) (args := [.slice data.a data.len data.cap, .int .i64 a, .int .i64 b]) Try.func44 (by kernel_rfl) ((show fnPt (std Try.prog) Try.prog Try.f44 slices_heapSortOrderedA [] [.slice data.a data.len data.cap, .int .i64 a, .int .i64 b] K w = slices_heapSortOrderedF data a b K w by kernel_rfl).mpr hF)

/-- slices.breakPatternsOrdered uint32  -/
def slices_breakPatternsOrderedF (data : Sl) (a : Int) (b : Int) (K : Unit → World → Prop) (w : World) : Prop :=
  cond (decide (IntKind.wrap IntKind.i64 (b - a) ≥ 8))
    (new (Obj.cells #[Value.int IntKind.u64 0] 100) w <|
    fun (r_1 : Nat) (w_2 : World) =>
    st ({ block := r_1, off := 0 }) ([Value.int IntKind.u64 (IntKind.wrap IntKind.u64 (IntKind.wrap IntKind.i64 (b - a)))]) w_2 <|
    fun (w_3 : World) =>
    call Try.prog 55 ([Value.int IntKind.i64 (IntKind.wrap IntKind.i64 (b - a))]) ([Ty1.one (Cell.int IntKind.u64)]) w_3 <|
    fun (x_4 : Int) (w_5 : World) =>
    loop (Int) (fun (X_6 : Int → World → Prop) (x_7 : Int) (w_8 : World) =>
      cond (decide (x_7 ≤ IntKind.wrap IntKind.i64 (IntKind.wrap IntKind.i64 (a + IntKind.wrap IntKind.i64 (IntKind.wrap IntKind.i64 (Int.tdiv (IntKind.wrap IntKind.i64 (b - a)) 4) * 2)) + 1)))
        (call Try.prog 56 ([Value.pointer (some { block := r_1, off := 0 })]) ([Ty1.one (Cell.int IntKind.u64)]) w_8 <|
        fun (x_9 : Int) (w_10 : World) =>
        join (Int) (fun (X_11 : Int → World → Prop) =>
          cond (decide (IntKind.wrap IntKind.i64 (bits BinOp.and IntKind.u64 x_9 (IntKind.wrap IntKind.u64 (x_4 - 1))) ≥ IntKind.wrap IntKind.i64 (b - a)))
            (X_11 (IntKind.wrap IntKind.i64 (IntKind.wrap IntKind.i64 (bits BinOp.and IntKind.u64 x_9 (IntKind.wrap IntKind.u64 (x_4 - 1))) - IntKind.wrap IntKind.i64 (b - a))) w_10)
            (X_11 (IntKind.wrap IntKind.i64 (bits BinOp.and IntKind.u64 x_9 (IntKind.wrap IntKind.u64 (x_4 - 1)))) w_10)) <|
        fun (x_12 : Int) (w_13 : World) =>
        idx data (IntKind.wrap IntKind.i64 (a + x_12)) 1 <|
        fun (a_14 : Addr) =>
        ld (Cell.int IntKind.u32) a_14 (World.drew w_13) <|
        fun (x_15 : Int) =>
        idx data x_7 1 <|
        fun (a_16 : Addr) =>
        ld (Cell.int IntKind.u32) a_16 (World.drew w_13) <|
        fun (x_17 : Int) =>
        idx data x_7 1 <|
        fun (a_18 : Addr) =>
        st a_18 ([Value.int IntKind.u32 x_15]) (World.drew w_13) <|
        fun (w_19 : World) =>
        idx data (IntKind.wrap IntKind.i64 (a + x_12)) 1 <|
        fun (a_20 : Addr) =>
        st a_20 ([Value.int IntKind.u32 x_17]) w_19 <|
        fun (w_21 : World) =>
        X_6 (IntKind.wrap IntKind.i64 (x_7 + 1)) w_21)
        (K () w_8)) (IntKind.wrap IntKind.i64 (IntKind.wrap IntKind.i64 (a + IntKind.wrap IntKind.i64 (IntKind.wrap IntKind.i64 (Int.tdiv (IntKind.wrap IntKind.i64 (b - a)) 4) * 2)) - 1)) w_5)
    (K () w)
def slices_breakPatternsOrderedA : List Ann := [.n, .n, .n, .n, .n, .l [(9, .one (.int .i64))], .n, .n, .n, .n, .j [(10, .one (.int .i64))], .n, .o [[0, 1, 2, 3, 4, 5, 6, 7, 8, 9, 10, 11, 12, 13, 14, 15, 16, 17, 18, 19]]]
theorem slices_breakPatternsOrdered_of {data : Sl} {a : Int} {b : Int} {w : World} {K : Unit → World → Prop} (hF : slices_breakPatternsOrderedF data a b K w) : call Try.prog 45 [.slice data.a data.len data.cap, .int .i64 a, .int .i64 b] [] w K :=
  calls_of_fnPt (an := slices_breakPatternsOrderedA) (ts := []) (args := [.slice data.a data.len data.cap, .int .i64 a, .int .i64 b]) Try.func45 (by kernel_rfl) ((show fnPt (std Try.prog) Try.prog Try.f45 slices_breakPatternsOrderedA [] [.slice data.a data.len data.cap, .int .i64 a, .int .i64 b] K w = slices_breakPatternsOrderedF data a b K w by kernel_rfl).mpr hF)

/-- slices.choosePivotOrdered uint32  -/
def slices_choosePivotOrderedF (data : Sl) (a : Int) (b : Int) (K : (Int × Int) → World → Prop) (w : World) : Prop :=
  new (Obj.cells #[Value.int IntKind.i64 0] 3) w <|
  fun (r_1 : Nat) (w_2 : World) =>
  join (Int) (fun (X_3 : Int → World → Prop) =>
    cond (decide (IntKind.wrap IntKind.i64 (b - a) ≥ 8))
      (join (Int × Int × Int) (fun (X_4 : Int × Int × Int → World → Prop) =>
        cond (decide (IntKind.wrap IntKind.i64 (b - a) ≥ 50))
          (call Try.prog 57 ([Value.slice data.a data.len data.cap, Value.int IntKind.i64 (IntKind.wrap IntKind.i64 (a + IntKind.wrap IntKind.i64 (IntKind.wrap IntKind.i64 (Int.tdiv (IntKind.wrap IntKind.i64 (b - a)) 4) * 1))), Value.pointer (some { block := r_1, off := 0 })]) ([Ty1.one (Cell.int IntKind.i64)]) w_2 <|
          fun (x_5 : Int) (w_6 : World) =>
          call Try.prog 57 ([Value.slice data.a data.len data.cap, Value.int IntKind.i64 (IntKind.wrap IntKind.i64 (a + IntKind.wrap IntKind.i64 (IntKind.wrap IntKind.i64 (Int.tdiv (IntKind.wrap IntKind.i64 (b - a)) 4) * 2))), Value.pointer (some { block := r_1, off := 0 })]) ([Ty1.one (Cell.int IntKind.i64)]) w_6 <|
          fun (x_7 : Int) (w_8 : World) =>
          call Try.prog 57 ([Value.slice data.a data.len data.cap, Value.int IntKind.i64 (IntKind.wrap IntKind.i64 (a + IntKind.wrap IntKind.i64 (IntKind.wrap IntKind.i64 (Int.tdiv (IntKind.wrap IntKind.i64 (b - a)) 4) * 3))), Value.pointer (some { block := r_1, off := 0 })]) ([Ty1.one (Cell.int IntKind.i64)]) w_8 <|
          fun (x_9 : Int) (w_10 : World) =>
          X_4 ((x_5, x_7, x_9)) w_10)
          (X_4 ((IntKind.wrap IntKind.i64 (a + IntKind.wrap IntKind.i64 (IntKind.wrap IntKind.i64 (Int.tdiv (IntKind.wrap IntKind.i64 (b - a)) 4) * 1)), IntKind.wrap IntKind.i64 (a + IntKind.wrap IntKind.i64 (IntKind.wrap IntKind.i64 (Int.tdiv (IntKind.wrap IntKind.i64 (b - a)) 4) * 2)), IntKind.wrap IntKind.i64 (a + IntKind.wrap IntKind.i64 (IntKind.wrap IntKind.i64 (Int.tdiv (IntKind.wrap IntKind.i64 (b - a)) 4) * 3)))) w_2)) <|
      fun (t_11 : Int × Int × Int) (w_12 : World) =>
      call Try.prog 58 ([Value.slice data.a data.len data.cap, Value.int IntKind.i64 t_11.fst, Value.int IntKind.i64 t_11.snd.fst, Value.int IntKind.i64 t_11.snd.snd, Value.pointer (some { block := r_1, off := 0 })]) ([Ty1.one (Cell.int IntKind.i64)]) w_12 <|
      fun (x_13 : Int) (w_14 : World) =>
      X_3 x_13 w_14)
      (X_3 (IntKind.wrap IntKind.i64 (a + IntKind.wrap IntKind.i64 (IntKind.wrap IntKind.i64 (Int.tdiv (IntKind.wrap IntKind.i64 (b - a)) 4) * 2))) w_2)) <|
  fun (x_15 : Int) (w_16 : World) =>
  ld (Cell.int IntKind.i64) ({ block := r_1, off := 0 }) w_16 <|
  fun (x_17 : Int) =>
  cond (x_17 == 0)
    (K ((x_15, 1)) w_16)
    (cond (x_17 == 12)
      (K ((x_15, 2)) w_16)
      (K ((x_15, 0)) w_16))
def slices_choosePivotOrderedA : List Ann := [.n, .n, .n, .n, .n, .n, .j [(11, .one (.int .i64))], .n, .j [(10, .one (.int .i64)), (11, .one (.int .i64)), (12, .one (.int .i64))], .n, .n, .n, .n, .n, .n, .n, .n, .n]
theorem slices_choosePivotOrdered_of {data : Sl} {a : Int} {b : Int} {w : World} {K : (Int × Int) → World → Prop} (hF : slices_choosePivotOrderedF data a b K w) : call Try.prog 46 [.slice data.a data.len data.cap, .int .i64 a, .int .i64 b] [.one (.int .i64), .one (.int .i64)] w K :=
  calls_of_fnPt (an := slices_choosePivotOrderedA) (ts := [.one (.int .i64), .one (.int .i64)]) (args := [.slice data.a data.len data.cap, .int .i64 a, .int .i64 b]) Try.func46 (by kernel_rfl) ((show fnPt (std Try.prog) Try.prog Try.f46 slices_choosePivotOrderedA [.one (.int .i64), .one (.int .i64)] [.slice data.a data.len data.cap, .int .i64 a, .int .i64 b] K w = slices_choosePivotOrderedF data a b K w by kernel_rfl).mpr hF)

/-- slices.reverseRangeOrdered uint32  -/
def slices_reverseRangeOrderedF (data : Sl) (a : Int) (b : Int) (K : Unit → World → Prop) (w : World) : Prop :=
  loop (Int × Int) (fun (X_1 : Int × Int → World → Prop) (t_2 : Int × Int) (w_3 : World) =>
    cond (decide (t_2.fst < t_2.snd))
      (idx data t_2.snd 1 <|
      fun (a_4 : Addr) =>
      ld (Cell.int IntKind.u32) a_4 (World.drew w_3) <|
      fun (x_5 : Int) =>
      idx data t_2.fst 1 <|
      fun (a_6 : Addr) =>
      ld (Cell.int IntKind.u32) a_6 (World.drew w_3) <|
      fun (x_7 : Int) =>
      idx data t_2.fst 1 <|
      fun (a_8 : Addr) =>
      st a_8 ([Value.int IntKind.u32 x_5]) (World.drew w_3) <|
      fun (w_9 : World) =>
      idx data t_2.snd 1 <|
      fun (a_10 : Addr) =>
      st a_10 ([Value.int IntKind.u32 x_7]) w_9 <|
      fun (w_11 : World) =>
      X_1 ((IntKind.wrap IntKind.i64 (t_2.fst + 1), IntKind.wrap IntKind.i64 (t_2.snd - 1))) w_11)
      (K () w_3)) ((a, IntKind.wrap IntKind.i64 (b - 1))) w
def slices_reverseRangeOrderedA : List Ann := [.n, .n, .l [(6, .one (.int .i64)), (7, .one (.int .i64))], .n, .n, .n, .o [[0, 1, 2, 3, 4, 5, 6, 7, 8, 9, 10, 11, 12, 13, 14, 15]], .n]
theorem slices_reverseRangeOrdered_of {data : Sl} {a : Int} {b : Int} {w : World} {K : Unit → World → Prop} (hF : slices_reverseRangeOrderedF data a b K w) : call Try.prog 47 [.slice data.a data.len data.cap, .int .i64 a, .int .i64 b] [] w K :=
  calls_of_fnPt (an := slices_reverseRangeOrderedA) (ts := []) (args := [.slice data.a data.len data.cap, .int .i64 a, .int .i64 b]) Try.func47 (by kernel_rfl) ((show fnPt (std Try.prog) Try.prog Try.f47 slices_reverseRangeOrderedA [] [.slice data.a data.len data.cap, .int .i64 a, .int .i64 b] K w = slices_reverseRangeOrderedF data a b K w by kernel_rfl).mpr hF)

/-- slices.partialInsertionSortOrdered uint32  -/
def slices_partialInsertionSortOrderedF (data : Sl) (a : Int) (b : Int) (K : Bool → World → Prop) (w : World) : Prop :=
  loop (Int × Int) (fun (X_1 : Int × Int → World → Prop) (t_2 : Int × Int) (w_3 : World) =>
    cond (decide (t_2.snd < 5))
      (join (Int) (fun (X_4 : Int → World → Prop) =>
        loop (Int) (fun (X_5 : Int → World → Prop) (x_6 : Int) (w_7 : World) =>
          join (Bool) (fun (X_8 : Bool → World → Prop) =>
            cond (decide (x_6 < b))
              (idx data x_6 1 <|
              fun (a_9 : Addr) =>
              ld (Cell.int IntKind.u32) a_9 (World.drew w_7) <|
              fun (x_10 : Int) =>
              idx data (IntKind.wrap IntKind.i64 (x_6 - 1)) 1 <|
              fun (a_11 : Addr) =>
              ld (Cell.int IntKind.u32) a_11 (World.drew w_7) <|
              fun (x_12 : Int) =>
              call Try.prog 49 ([Value.int IntKind.u32 x_10, Value.int IntKind.u32 x_12]) ([Ty1.one Cell.bool]) (World.drew w_7) <|
              fun (b_13 : Bool) (w_14 : World) =>
              X_8 (!b_13) w_14)
              (X_8 false (World.drew w_7))) <|
          fun (b_15 : Bool) (w_16 : World) =>
          cond b_15
            (X_5 (IntKind.wrap IntKind.i64 (x_6 + 1)) w_16)
            (cond (x_6 == b)
              (K true w_16)
              (cond (decide (IntKind.wrap IntKind.i64 (b - a) < 50))
                (K false w_16)
                (idx data (IntKind.wrap IntKind.i64 (x_6 - 1)) 1 <|
                fun (a_17 : Addr) =>
                ld (Cell.int IntKind.u32) a_17 (World.drew w_16) <|
                fun (x_18 : Int) =>
                idx data x_6 1 <|
                fun (a_19 : Addr) =>
                ld (Cell.int IntKind.u32) a_19 (World.drew w_16) <|
                fun (x_20 : Int) =>
                idx data x_6 1 <|
                fun (a_21 : Addr) =>
                st a_21 ([Value.int IntKind.u32 x_18]) (World.drew w_16) <|
                fun (w_22 : World) =>
                idx data (IntKind.wrap IntKind.i64 (x_6 - 1)) 1 <|
                fun (a_23 : Addr) =>
                st a_23 ([Value.int IntKind.u32 x_20]) w_22 <|
                fun (w_24 : World) =>
                join (PUnit) (fun (X_25 : PUnit → World → Prop) =>
                  cond (decide (IntKind.wrap IntKind.i64 (x_6 - a) ≥ 2))
                    (loop (Int) (fun (X_26 : Int → World → Prop) (x_27 : Int) (w_28 : World) =>
                      cond (decide (x_27 ≥ 1))
                        (idx data x_27 1 <|
                        fun (a_29 : Addr) =>
                        ld (Cell.int IntKind.u32) a_29 (World.drew w_28) <|
                        fun (x_30 : Int) =>
                        idx data (IntKind.wrap IntKind.i64 (x_27 - 1)) 1 <|
                        fun (a_31 : Addr) =>
                        ld (Cell.int IntKind.u32) a_31 (World.drew w_28) <|
                        fun (x_32 : Int) =>
                        call Try.prog 49 ([Value.int IntKind.u32 x_30, Value.int IntKind.u32 x_32]) ([Ty1.one Cell.bool]) (World.drew w_28) <|
                        fun (b_33 : Bool) (w_34 : World) =>
                        cond (!b_33)
                          (X_25 () w_34)
                          (idx data (IntKind.wrap IntKind.i64 (x_27 - 1)) 1 <|
                          fun (a_35 : Addr) =>
                          ld (Cell.int IntKind.u32) a_35 (World.drew w_34) <|
                          fun (x_36 : Int) =>
                          idx data x_27 1 <|
                          fun (a_37 : Addr) =>
                          ld (Cell.int IntKind.u32) a_37 (World.drew w_34) <|
                          fun (x_38 : Int) =>
                          idx data x_27 1 <|
                          fun (a_39 : Addr) =>
                          st a_39 ([Value.int IntKind.u32 x_36]) (World.drew w_34) <|
                          fun (w_40 : World) =>
                          idx data (IntKind.wrap IntKind.i64 (x_27 - 1)) 1 <|
                          fun (a_41 : Addr) =>
                          st a_41 ([Value.int IntKind.u32 x_38]) w_40 <|
                          fun (w_42 : World) =>
                          X_26 (IntKind.wrap IntKind.i64 (x_27 - 1)) w_42))
                        (X_25 () w_28)) (IntKind.wrap IntKind.i64 (x_6 - 1)) w_24)
                    (X_25 () w_24)) <|
                fun (x_43 : PUnit) (w_44 : World) =>
                cond (decide (IntKind.wrap IntKind.i64 (b - x_6) ≥ 2))
                  (loop (Int) (fun (X_45 : Int → World → Prop) (x_46 : Int) (w_47 : World) =>
                    cond (decide (x_46 < b))
                      (idx data x_46 1 <|
                      fun (a_48 : Addr) =>
                      ld (Cell.int IntKind.u32) a_48 (World.drew w_47) <|
                      fun (x_49 : Int) =>
                      idx data (IntKind.wrap IntKind.i64 (x_46 - 1)) 1 <|
                      fun (a_50 : Addr) =>
                      ld (Cell.int IntKind.u32) a_50 (World.drew w_47) <|
                      fun (x_51 : Int) =>
                      call Try.prog 49 ([Value.int IntKind.u32 x_49, Value.int IntKind.u32 x_51]) ([Ty1.one Cell.bool]) (World.drew w_47) <|
                      fun (b_52 : Bool) (w_53 : World) =>
                      cond (!b_52)
                        (X_4 x_6 w_53)
                        (idx data (IntKind.wrap IntKind.i64 (x_46 - 1)) 1 <|
                        fun (a_54 : Addr) =>
                        ld (Cell.int IntKind.u32) a_54 (World.drew w_53) <|
                        fun (x_55 : Int) =>
                        idx data x_46 1 <|
                        fun (a_56 : Addr) =>
                        ld (Cell.int IntKind.u32) a_56 (World.drew w_53) <|
                        fun (x_57 : Int) =>
                        idx data x_46 1 <|
                        fun (a_58 : Addr) =>
                        st a_58 ([Value.int IntKind.u32 x_55]) (World.drew w_53) <|
                        fun (w_59 : World) =>
                        idx data (IntKind.wrap IntKind.i64 (x_46 - 1)) 1 <|
                        fun (a_60 : Addr) =>
                        st a_60 ([Value.int IntKind.u32 x_57]) w_59 <|
                        fun (w_61 : World) =>
                        X_45 (IntKind.wrap IntKind.i64 (x_46 + 1)) w_61))
                      (X_4 x_6 w_47)) (IntKind.wrap IntKind.i64 (x_6 + 1)) w_44)
                  (X_4 x_6 w_44))))) t_2.fst w_3) <|
      fun (x_62 : Int) (w_63 : World) =>
      X_1 ((x_62, IntKind.wrap IntKind.i64 (t_2.snd + 1))) w_63)
      (K false w_3)) ((IntKind.wrap IntKind.i64 (a + 1), 0)) w
def slices_partialInsertionSortOrderedA : List Ann := [.n, .n, .n, .n, .l [(7, .one (.int .i64)), (8, .one (.int .i64))], .n, .n, .j [(7, .one (.int .i64))], .n, .l [(7, .one (.int .i64))], .n, .j [(32, .one .bool)], .o [[0, 1, 2, 3, 4, 5, 6, 7, 8, 9, 10, 11, 12, 13, 14, 15]], .n, .n, .n, .n, .n, .n, .n, .o [[0, 1, 2, 3, 4, 5, 6, 7, 8, 9, 10, 11, 12, 13, 14, 15, 16, 17]], .j [], .n, .n, .l [(9, .one (.int .i64))], .n, .n, .n, .n, .n, .o [[0, 1, 2, 3, 4, 5, 6, 7, 8, 9, 10]], .o [[0, 1, 2, 3, 4, 5, 6, 7, 8, 9, 10, 11, 12, 13, 14, 15, 16, 17]], .n, .n, .l [(10, .one (.int .i64))], .n, .n, .n, .n, .n, .o [[0, 1, 2, 3, 4, 5, 6, 7, 8, 9, 10]], .o [[0, 1, 2, 3, 4, 5, 6, 7, 8, 9, 10, 11, 12, 13, 14, 15, 16, 17]], .n]
theorem slices_partialInsertionSortOrdered_of {data : Sl} {a : Int} {b : Int} {w : World} {K : Bool → World → Prop} (hF : slices_partialInsertionSortOrderedF data a b K w) : call Try.prog 48 [.slice data.a data.len data.cap, .int .i64 a, .int .i64 b] [.one .bool] w K :=
  calls_of_fnPt (an := slices_partialInsertionSortOrderedA) (ts := [.one .bool]) (args := [.slice data.a data.len data.cap, .int .i64 a, .int .i64 b]) Try.func48 (by kernel_rfl) ((show fnPt (std Try.prog) Try.prog Try.f48 slices_partialInsertionSortOrderedA [.one .bool] [.slice data.a data.len data.cap, .int .i64 a, .int .i64 b] K w = slices_partialInsertionSortOrderedF data a b K w by kernel_rfl).mpr hF)

/-- cmp.Less uint32  -/
def cmp_LessF (x : Int) (y : Int) (K : Bool → World → Prop) (w : World) : Prop :=
  call Try.prog 59 ([Value.int IntKind.u32 x]) ([Ty1.one Cell.bool]) w <|
  fun (b_1 : Bool) (w_2 : World) =>
  cond b_1
    (call Try.prog 59 ([Value.int IntKind.u32 y]) ([Ty1.one Cell.bool]) w_2 <|
    fun (b_3 : Bool) (w_4 : World) =>
    cond (!b_3)
      (K true w_4)
      (K (decide (x < y)) w_4))
    (K (decide (x < y)) w_2)
def cmp_LessA : List Ann := [.n, .n]
theorem cmp_Less_of {x : Int} {y : Int} {w : World} {K : Bool → World → Prop} (hF : cmp_LessF x y K w) : call Try.prog 49 [.int .u32 x, .int .u32 y] [.one .bool] w K :=
  calls_of_fnPt (an := cmp_LessA) (ts := [.one .bool]) (args := [.int .u32 x, .int .u32 y]) Try.func49 (by kernel_rfl) ((show fnPt (std Try.prog) Try.prog Try.f49 cmp_LessA [.one .bool] [.int .u32 x, .int .u32 y] K w = cmp_LessF x y K w by kernel_rfl).mpr hF)

/-- slices.partitionEqualOrdered uint32  -/
def slices_partitionEqualOrderedF (data : Sl) (a : Int) (b : Int) (pivot : Int) (K : Int → World → Prop) (w : World) : Prop :=
  idx data pivot 1 <|
  fun (a_1 : Addr) =>
  ld (Cell.int IntKind.u32) a_1 (World.drew w) <|
  fun (x_2 : Int) =>
  idx data a 1 <|
  fun (a_3 : Addr) =>
  ld (Cell.int IntKind.u32) a_3 (World.drew w) <|
  fun (x_4 : Int) =>
  idx data a 1 <|
  fun (a_5 : Addr) =>
  st a_5 ([Value.int IntKind.u32 x_2]) (World.drew w) <|
  fun (w_6 : World) =>
  idx data pivot 1 <|
  fun (a_7 : Addr) =>
  st a_7 ([Value.int IntKind.u32 x_4]) w_6 <|
  fun (w_8 : World) =>
  loop (Int × Int) (fun (X_9 : Int × Int → World → Prop) (t_10 : Int × Int) (w_11 : World) =>
    loop (Int) (fun (X_12 : Int → World → Prop) (x_13 : Int) (w_14 : World) =>
      join (Bool) (fun (X_15 : Bool → World → Prop) =>
        cond (decide (x_13 ≤ t_10.snd))
          (idx data a 1 <|
          fun (a_16 : Addr) =>
          ld (Cell.int IntKind.u32) a_16 (World.drew w_14) <|
          fun (x_17 : Int) =>
          idx data x_13 1 <|
          fun (a_18 : Addr) =>
          ld (Cell.int IntKind.u32) a_18 (World.drew w_14) <|
          fun (x_19 : Int) =>
          call Try.prog 49 ([Value.int IntKind.u32 x_17, Value.int IntKind.u32 x_19]) ([Ty1.one Cell.bool]) (World.drew w_14) <|
          fun (b_20 : Bool) (w_21 : World) =>
          X_15 (!b_20) w_21)
          (X_15 false (World.drew w_14))) <|
      fun (b_22 : Bool) (w_23 : World) =>
      cond b_22
        (X_12 (IntKind.wrap IntKind.i64 (x_13 + 1)) w_23)
        (loop (Int) (fun (X_24 : Int → World → Prop) (x_25 : Int) (w_26 : World) =>
          join (Bool) (fun (X_27 : Bool → World → Prop) =>
            cond (decide (x_13 ≤ x_25))
              (idx data a 1 <|
              fun (a_28 : Addr) =>
              ld (Cell.int IntKind.u32) a_28 (World.drew w_26) <|
              fun (x_29 : Int) =>
              idx data x_25 1 <|
              fun (a_30 : Addr) =>
              ld (Cell.int IntKind.u32) a_30 (World.drew w_26) <|
              fun (x_31 : Int) =>
              call Try.prog 49 ([Value.int IntKind.u32 x_29, Value.int IntKind.u32 x_31]) ([Ty1.one Cell.bool]) (World.drew w_26) <|
              fun (b_32 : Bool) (w_33 : World) =>
              X_27 b_32 w_33)
              (X_27 false (World.drew w_26))) <|
          fun (b_34 : Bool) (w_35 : World) =>
          cond b_34
            (X_24 (IntKind.wrap IntKind.i64 (x_25 - 1)) w_35)
            (cond (decide (x_13 > x_25))
              (K x_13 w_35)
              (idx data x_25 1 <|
              fun (a_36 : Addr) =>
              ld (Cell.int IntKind.u32) a_36 (World.drew w_35) <|
              fun (x_37 : Int) =>
              idx data x_13 1 <|
              fun (a_38 : Addr) =>
              ld (Cell.int IntKind.u32) a_38 (World.drew w_35) <|
              fun (x_39 : Int) =>
              idx data x_13 1 <|
              fun (a_40 : Addr) =>
              st a_40 ([Value.int IntKind.u32 x_37]) (World.drew w_35) <|
              fun (w_41 : World) =>
              idx data x_25 1 <|
              fun (a_42 : Addr) =>
              st a_42 ([Value.int IntKind.u32 x_39]) w_41 <|
              fun (w_43 : World) =>
              X_9 ((IntKind.wrap IntKind.i64 (x_13 + 1), IntKind.wrap IntKind.i64 (x_25 - 1))) w_43))) t_10.snd w_23)) t_10.fst w_11) ((IntKind.wrap IntKind.i64 (a + 1), IntKind.wrap IntKind.i64 (b - 1))) w_8
def slices_partitionEqualOrderedA : List Ann := [.n, .n, .o [[0, 1, 2, 3, 4, 5, 6, 7, 8, 9, 10, 11, 12, 13, 14, 15]], .n, .n, .l [(9, .one (.int .i64)), (10, .one (.int .i64))], .n, .l [(9, .one (.int .i64))], .n, .j [(43, .one .bool)], .o [[0, 1, 2, 3, 4, 5, 6, 7, 8, 9, 10, 11, 12, 13, 14]], .n, .l [(10, .one (.int .i64))], .n, .j [(59, .one .bool)], .o [[0, 1, 2, 3, 4, 5, 6, 7, 8, 9, 10, 11, 12, 13]], .n, .n, .n, .o [[0, 1, 2, 3, 4, 5, 6, 7, 8, 9, 10, 11, 12, 13, 14, 15]], .n, .n]
theorem slices_partitionEqualOrdered_of {data : Sl} {a : Int} {b : Int} {pivot : Int} {w : World} {K : Int → World → Prop} (hF : slices_partitionEqualOrderedF data a b pivot K w) : call Try.prog 50 [.slice data.a data.len data.cap, .int .i64 a, .int .i64 b, .int .i64 pivot] [.one (.int .i64)] w K :=
  calls_of_fnPt (an := slices_partitionEqualOrderedA) (ts := [.one (.int .i64)]) (args := [.slice data.a data.len data.cap, .int .i64 a, .int .i64 b, .int .i64 pivot]) Try.func50 (by kernel_rfl) ((show fnPt (std Try.prog) Try.prog Try.f50 slices_partitionEqualOrderedA [.one (.int .i64)] [.slice data.a data.len data.cap, .int .i64 a, .int .i64 b, .int .i64 pivot] K w = slices_partitionEqualOrderedF data a b pivot K w by kernel_rfl).mpr hF)

/-- slices.partitionOrdered uint32  -/
def slices_partitionOrderedF (data : Sl) (a : Int) (b : Int) (pivot : Int) (K : (Int × Bool) → World → Prop) (w : World) : Prop :=
  idx data pivot 1 <|
  fun (a_1 : Addr) =>
  ld (Cell.int IntKind.u32) a_1 (World.drew w) <|
  fun (x_2 : Int) =>
  idx data a 1 <|
  fun (a_3 : Addr) =>
  ld (Cell.int IntKind.u32) a_3 (World.drew w) <|
  fun (x_4 : Int) =>
  idx data a 1 <|
  fun (a_5 : Addr) =>
  st a_5 ([Value.int IntKind.u32 x_2]) (World.drew w) <|
  fun (w_6 : World) =>
  idx data pivot 1 <|
  fun (a_7 : Addr) =>
  st a_7 ([Value.int IntKind.u32 x_4]) w_6 <|
  fun (w_8 : World) =>
  loop (Int) (fun (X_9 : Int → World → Prop) (x_10 : Int) (w_11 : World) =>
    join (Bool) (fun (X_12 : Bool → World → Prop) =>
      cond (decide (x_10 ≤ IntKind.wrap IntKind.i64 (b - 1)))
        (idx data x_10 1 <|
        fun (a_13 : Addr) =>
        ld (Cell.int IntKind.u32) a_13 (World.drew w_11) <|
        fun (x_14 : Int) =>
        idx data a 1 <|
        fun (a_15 : Addr) =>
        ld (Cell.int IntKind.u32) a_15 (World.drew w_11) <|
        fun (x_16 : Int) =>
        call Try.prog 49 ([Value.int IntKind.u32 x_14, Value.int IntKind.u32 x_16]) ([Ty1.one Cell.bool]) (World.drew w_11) <|
        fun (b_17 : Bool) (w_18 : World) =>
        X_12 b_17 w_18)
        (X_12 false (World.drew w_11))) <|
    fun (b_19 : Bool) (w_20 : World) =>
    cond b_19
      (X_9 (IntKind.wrap IntKind.i64 (x_10 + 1)) w_20)
      (loop (Int) (fun (X_21 : Int → World → Prop) (x_22 : Int) (w_23 : World) =>
        join (Bool) (fun (X_24 : Bool → World → Prop) =>
          cond (decide (x_10 ≤ x_22))
            (idx data x_22 1 <|
            fun (a_25 : Addr) =>
            ld (Cell.int IntKind.u32) a_25 (World.drew w_23) <|
            fun (x_26 : Int) =>
            idx data a 1 <|
            fun (a_27 : Addr) =>
            ld (Cell.int IntKind.u32) a_27 (World.drew w_23) <|
            fun (x_28 : Int) =>
            call Try.prog 49 ([Value.int IntKind.u32 x_26, Value.int IntKind.u32 x_28]) ([Ty1.one Cell.bool]) (World.drew w_23) <|
            fun (b_29 : Bool) (w_30 : World) =>
            X_24 (!b_29) w_30)
            (X_24 false (World.drew w_23))) <|
        fun (b_31 : Bool) (w_32 : World) =>
        cond b_31
          (X_21 (IntKind.wrap IntKind.i64 (x_22 - 1)) w_32)
          (cond (decide (x_10 > x_22))
            (idx data a 1 <|
            fun (a_33 : Addr) =>
            ld (Cell.int IntKind.u32) a_33 (World.drew w_32) <|
            fun (x_34 : Int) =>
            idx data x_22 1 <|
            fun (a_35 : Addr) =>
            ld (Cell.int IntKind.u32) a_35 (World.drew w_32) <|
            fun (x_36 : Int) =>
            idx data x_22 1 <|
            fun (a_37 : Addr) =>
            st a_37 ([Value.int IntKind.u32 x_34]) (World.drew w_32) <|
            fun (w_38 : World) =>
            idx data a 1 <|
            fun (a_39 : Addr) =>
            st a_39 ([Value.int IntKind.u32 x_36]) w_38 <|
            fun (w_40 : World) =>
            K ((x_22, true)) w_40)
            (idx data x_22 1 <|
            fun (a_41 : Addr) =>
            ld (Cell.int IntKind.u32) a_41 (World.drew w_32) <|
            fun (x_42 : Int) =>
            idx data x_10 1 <|
            fun (a_43 : Addr) =>
            ld (Cell.int IntKind.u32) a_43 (World.drew w_32) <|
            fun (x_44 : Int) =>
            idx data x_10 1 <|
            fun (a_45 : Addr) =>
            st a_45 ([Value.int IntKind.u32 x_42]) (World.drew w_32) <|
            fun (w_46 : World) =>
            idx data x_22 1 <|
            fun (a_47 : Addr) =>
            st a_47 ([Value.int IntKind.u32 x_44]) w_46 <|
            fun (w_48 : World) =>
            loop (Int × Int) (fun (X_49 : Int × Int → World → Prop) (t_50 : Int × Int) (w_51 : World) =>
              loop (Int) (fun (X_52 : Int → World → Prop) (x_53 : Int) (w_54 : World) =>
                join (Bool) (fun (X_55 : Bool → World → Prop) =>
                  cond (decide (x_53 ≤ t_50.snd))
                    (idx data x_53 1 <|
                    fun (a_56 : Addr) =>
                    ld (Cell.int IntKind.u32) a_56 (World.drew w_54) <|
                    fun (x_57 : Int) =>
                    idx data a 1 <|
                    fun (a_58 : Addr) =>
                    ld (Cell.int IntKind.u32) a_58 (World.drew w_54) <|
                    fun (x_59 : Int) =>
                    call Try.prog 49 ([Value.int IntKind.u32 x_57, Value.int IntKind.u32 x_59]) ([Ty1.one Cell.bool]) (World.drew w_54) <|
                    fun (b_60 : Bool) (w_61 : World) =>
                    X_55 b_60 w_61)
                    (X_55 false (World.drew w_54))) <|
                fun (b_62 : Bool) (w_63 : World) =>
                cond b_62
                  (X_52 (IntKind.wrap IntKind.i64 (x_53 + 1)) w_63)
                  (loop (Int) (fun (X_64 : Int → World → Prop) (x_65 : Int) (w_66 : World) =>
                    join (Bool) (fun (X_67 : Bool → World → Prop) =>
                      cond (decide (x_53 ≤ x_65))
                        (idx data x_65 1 <|
                        fun (a_68 : Addr) =>
                        ld (Cell.int IntKind.u32) a_68 (World.drew w_66) <|
                        fun (x_69 : Int) =>
                        idx data a 1 <|
                        fun (a_70 : Addr) =>
                        ld (Cell.int IntKind.u32) a_70 (World.drew w_66) <|
                        fun (x_71 : Int) =>
                        call Try.prog 49 ([Value.int IntKind.u32 x_69, Value.int IntKind.u32 x_71]) ([Ty1.one Cell.bool]) (World.drew w_66) <|
                        fun (b_72 : Bool) (w_73 : World) =>
                        X_67 (!b_72) w_73)
                        (X_67 false (World.drew w_66))) <|
                    fun (b_74 : Bool) (w_75 : World) =>
                    cond b_74
                      (X_64 (IntKind.wrap IntKind.i64 (x_65 - 1)) w_75)
                      (cond (decide (x_53 > x_65))
                        (idx data a 1 <|
                        fun (a_76 : Addr) =>
                        ld (Cell.int IntKind.u32) a_76 (World.drew w_75) <|
                        fun (x_77 : Int) =>
                        idx data x_65 1 <|
                        fun (a_78 : Addr) =>
                        ld (Cell.int IntKind.u32) a_78 (World.drew w_75) <|
                        fun (x_79 : Int) =>
                        idx data x_65 1 <|
                        fun (a_80 : Addr) =>
                        st a_80 ([Value.int IntKind.u32 x_77]) (World.drew w_75) <|
                        fun (w_81 : World) =>
                        idx data a 1 <|
                        fun (a_82 : Addr) =>
                        st a_82 ([Value.int IntKind.u32 x_79]) w_81 <|
                        fun (w_83 : World) =>
                        K ((x_65, false)) w_83)
                        (idx data x_65 1 <|
                        fun (a_84 : Addr) =>
                        ld (Cell.int IntKind.u32) a_84 (World.drew w_75) <|
                        fun (x_85 : Int) =>
                        idx data x_53 1 <|
                        fun (a_86 : Addr) =>
                        ld (Cell.int IntKind.u32) a_86 (World.drew w_75) <|
                        fun (x_87 : Int) =>
                        idx data x_53 1 <|
                        fun (a_88 : Addr) =>
                        st a_88 ([Value.int IntKind.u32 x_85]) (World.drew w_75) <|
                        fun (w_89 : World) =>
                        idx data x_65 1 <|
                        fun (a_90 : Addr) =>
                        st a_90 ([Value.int IntKind.u32 x_87]) w_89 <|
                        fun (w_91 : World) =>
                        X_49 ((IntKind.wrap IntKind.i64 (x_53 + 1), IntKind.wrap IntKind.i64 (x_65 - 1))) w_91))) t_50.snd w_63)) t_50.fst w_51) ((IntKind.wrap IntKind.i64 (x_10 + 1), IntKind.wrap IntKind.i64 (x_22 - 1))) w_48))) (IntKind.wrap IntKind.i64 (b - 1)) w_20)) (IntKind.wrap IntKind.i64 (a + 1)) w_8
def slices_partitionOrderedA : List Ann := [.n, .n, .o [[0, 1, 2, 3, 4, 5, 6, 7, 8, 9, 10, 11, 12, 13, 14, 15]], .n, .n, .l [(10, .one (.int .i64))], .n, .j [(43, .one .bool)], .o [[0, 1, 2, 3, 4, 5, 6, 7, 8, 9, 10, 11, 12, 13]], .n, .l [(11, .one (.int .i64))], .n, .j [(60, .one .bool)], .o [[0, 1, 2, 3, 4, 5, 6, 7, 8, 9, 10, 11, 12, 13, 14]], .n, .n, .n, .o [[0, 1, 2, 3, 4, 5, 6, 7, 8, 9, 10, 11, 12, 13, 14, 15]], .n, .n, .o [[0, 1, 2, 3, 4, 5, 6, 7, 8, 9, 10, 11, 12, 13, 14, 15]], .n, .n, .n, .l [(10, .one (.int .i64)), (11, .one (.int .i64))], .n, .l [(10, .one (.int .i64))], .n, .j [(112, .one .bool)], .o [[0, 1, 2, 3, 4, 5, 6, 7, 8, 9, 10, 11, 12, 13]], .n, .l [(11, .one (.int .i64))], .n, .j [(129, .one .bool)], .o [[0, 1, 2, 3, 4, 5, 6, 7, 8, 9, 10, 11, 12, 13, 14]], .n, .n, .n, .o [[0, 1, 2, 3, 4, 5, 6, 7, 8, 9, 10, 11, 12, 13, 14, 15]], .n, .n, .o [[0, 1, 2, 3, 4, 5, 6, 7, 8, 9, 10, 11, 12, 13, 14, 15]], .n]
theorem slices_partitionOrdered_of {data : Sl} {a : Int} {b : Int} {pivot : Int} {w : World} {K : (Int × Bool) → World → Prop} (hF : slices_partitionOrderedF data a b pivot K w) : call Try.prog 51 [.slice data.a data.len data.cap, .int .i64 a, .int .i64 b, .int .i64 pivot] [.one (.int .i64), .one .bool] w K :=
  calls_of_fnPt (an := slices_partitionOrderedA) (ts := [.one (.int .i64), .one .bool]) (args := [.slice data.a data.len data.cap, .int .i64 a, .int .i64 b, .int .i64 pivot]) Try.func51 (by kernel_rfl) ((show fnPt (std Try.prog) Try.prog Try.f51 slices_partitionOrderedA [.one (.int .i64), .one .bool] [.slice data.a data.len data.cap, .int .i64 a, .int .i64 b, .int .i64 pivot] K w = slices_partitionOrderedF data a b pivot K w by kernel_rfl).mpr hF)

/-- math.bits.Len32 -/
def bits_Len32F (x : Int) (K : Int → World → Prop) (w : World) : Prop :=
  join (Int × Int) (fun (X_1 : Int × Int → World → Prop) =>
    cond (decide (x ≥ 65536))
      (X_1 ((Int.fdiv x (2 ^ 16), 16)) w)
      (X_1 ((x, 0)) w)) <|
  fun (t_2 : Int × Int) (w_3 : World) =>
  join (Int × Int) (fun (X_4 : Int × Int → World → Prop) =>
    cond (decide (t_2.fst ≥ 256))
      (X_4 ((Int.fdiv t_2.fst (2 ^ 8), IntKind.wrap IntKind.i64 (t_2.snd + 8))) w_3)
      (X_4 t_2 w_3)) <|
  fun (t_5 : Int × Int) (w_6 : World) =>
  idxS ({ data := List.toArray (List.append (List.append [0, 1, 2, 2, 3, 3, 3, 3, 4, 4, 4, 4, 4, 4, 4, 4, 5, 5, 5, 5, 5, 5, 5, 5, 5, 5, 5, 5, 5, 5, 5, 5, 6, 6, 6, 6, 6, 6, 6, 6, 6, 6, 6, 6, 6, 6, 6, 6, 6, 6, 6, 6, 6, 6, 6, 6, 6, 6, 6, 6, 6, 6, 6, 6] [7, 7, 7, 7, 7, 7, 7, 7, 7, 7, 7, 7, 7, 7, 7, 7, 7, 7, 7, 7, 7, 7, 7, 7, 7, 7, 7, 7, 7, 7, 7, 7, 7, 7, 7, 7, 7, 7, 7, 7, 7, 7, 7, 7, 7, 7, 7, 7, 7, 7, 7, 7, 7, 7, 7, 7, 7, 7, 7, 7, 7, 7, 7, 7]) (List.append [8, 8, 8, 8, 8, 8, 8, 8, 8, 8, 8, 8, 8, 8, 8, 8, 8, 8, 8, 8, 8, 8, 8, 8, 8, 8, 8, 8, 8, 8, 8, 8, 8, 8, 8, 8, 8, 8, 8, 8, 8, 8, 8, 8, 8, 8, 8, 8, 8, 8, 8, 8, 8, 8, 8, 8, 8, 8, 8, 8, 8, 8, 8, 8] [8, 8, 8, 8, 8, 8, 8, 8, 8, 8, 8, 8, 8, 8, 8, 8, 8, 8, 8, 8, 8, 8, 8, 8, 8, 8, 8, 8, 8, 8, 8, 8, 8, 8, 8, 8, 8, 8, 8, 8, 8, 8, 8, 8, 8, 8, 8, 8, 8, 8, 8, 8, 8, 8, 8, 8, 8, 8, 8, 8, 8, 8, 8, 8])) }) (IntKind.wrap IntKind.u8 t_5.fst) <|
  fun (x_7 : Int) =>
  K (IntKind.wrap IntKind.i64 (t_5.snd + IntKind.wrap IntKind.i64 x_7)) w_6
def bits_Len32A : List Ann := [.n, .j [(0, .one (.int .u32)), (2, .one (.int .i64))], .n, .n, .j [(0, .one (.int .u32)), (2, .one (.int .i64))], .n, .n, .n]
theorem bits_Len32_of {x : Int} {w : World} {K : Int → World → Prop} (hF : bits_Len32F x K w) : call Try.prog 52 [.int .u32 x] [.one (.int .i64)] w K :=
  calls_of_fnPt (an := bits_Len32A) (ts := [.one (.int .i64)]) (args := [.int .u32 x]) Try.func52 (by kernel_rfl) ((show fnPt (std Try.prog) Try.prog Try.f52 bits_Len32A [.one (.int .i64)] [.int .u32 x] K w = bits_Len32F x K w by kernel_rfl).mpr hF)

/-- math.bits.Len64 -/
def bits_Len64F (x : Int) (K : Int → World → Prop) (w : World) : Prop :=
  join (Int × Int) (fun (X_1 : Int × Int → World → Prop) =>
    cond (decide (x ≥ 4294967296))
      (X_1 ((Int.fdiv x (2 ^ 32), 32)) w)
      (X_1 ((x, 0)) w)) <|
  fun (t_2 : Int × Int) (w_3 : World) =>
  join (Int × Int) (fun (X_4 : Int × Int → World → Prop) =>
    cond (decide (t_2.fst ≥ 65536))
      (X_4 ((Int.fdiv t_2.fst (2 ^ 16), IntKind.wrap IntKind.i64 (t_2.snd + 16))) w_3)
      (X_4 t_2 w_3)) <|
  fun (t_5 : Int × Int) (w_6 : World) =>
  join (Int × Int) (fun (X_7 : Int × Int → World → Prop) =>
    cond (decide (t_5.fst ≥ 256))
      (X_7 ((Int.fdiv t_5.fst (2 ^ 8), IntKind.wrap IntKind.i64 (t_5.snd + 8))) w_6)
      (X_7 t_5 w_6)) <|
  fun (t_8 : Int × Int) (w_9 : World) =>
  idxS ({ data := List.toArray (List.append (List.append [0, 1, 2, 2, 3, 3, 3, 3, 4, 4, 4, 4, 4, 4, 4, 4, 5, 5, 5, 5, 5, 5, 5, 5, 5, 5, 5, 5, 5, 5, 5, 5, 6, 6, 6, 6, 6, 6, 6, 6, 6, 6, 6, 6, 6, 6, 6, 6, 6, 6, 6, 6, 6, 6, 6, 6, 6, 6, 6, 6, 6, 6, 6, 6] [7, 7, 7, 7, 7, 7, 7, 7, 7, 7, 7, 7, 7, 7, 7, 7, 7, 7, 7, 7, 7, 7, 7, 7, 7, 7, 7, 7, 7, 7, 7, 7, 7, 7, 7, 7, 7, 7, 7, 7, 7, 7, 7, 7, 7, 7, 7, 7, 7, 7, 7, 7, 7, 7, 7, 7, 7, 7, 7, 7, 7, 7, 7, 7]) (List.append [8, 8, 8, 8, 8, 8, 8, 8, 8, 8, 8, 8, 8, 8, 8, 8, 8, 8, 8, 8, 8, 8, 8, 8, 8, 8, 8, 8, 8, 8, 8, 8, 8, 8, 8, 8, 8, 8, 8, 8, 8, 8, 8, 8, 8, 8, 8, 8, 8, 8, 8, 8, 8, 8, 8, 8, 8, 8, 8, 8, 8, 8, 8, 8] [8, 8, 8, 8, 8, 8, 8, 8, 8, 8, 8, 8, 8, 8, 8, 8, 8, 8, 8, 8, 8, 8, 8, 8, 8, 8, 8, 8, 8, 8, 8, 8, 8, 8, 8, 8, 8, 8, 8, 8, 8, 8, 8, 8, 8, 8, 8, 8, 8, 8, 8, 8, 8, 8, 8, 8, 8, 8, 8, 8, 8, 8, 8, 8])) }) (IntKind.wrap IntKind.u8 t_8.fst) <|
  fun (x_10 : Int) =>
  K (IntKind.wrap IntKind.i64 (t_8.snd + IntKind.wrap IntKind.i64 x_10)) w_9
def bits_Len64A : List Ann := [.n, .j [(0, .one (.int .u64)), (2, .one (.int .i64))], .n, .n, .j [(0, .one (.int .u64)), (2, .one (.int .i64))], .n, .n, .j [(0, .one (.int .u64)), (2, .one (.int .i64))], .n, .n, .n]
theorem bits_Len64_of {x : Int} {w : World} {K : Int → World → Prop} (hF : bits_Len64F x K w) : call Try.prog 53 [.int .u64 x] [.one (.int .i64)] w K :=
  calls_of_fnPt (an := bits_Len64A) (ts := [.one (.int .i64)]) (args := [.int .u64 x]) Try.func53 (by kernel_rfl) ((show fnPt (std Try.prog) Try.prog Try.f53 bits_Len64A [.one (.int .i64)] [.int .u64 x] K w = bits_Len64F x K w by kernel_rfl).mpr hF)

/-- slices.siftDownOrdered uint32  -/
def slices_siftDownOrderedF (data : Sl) (lo : Int) (hi : Int) (first : Int) (K : Unit → World → Prop) (w : World) : Prop :=
  loop (Int) (fun (X_1 : Int → World → Prop) (x_2 : Int) (w_3 : World) =>
    cond (decide (IntKind.wrap IntKind.i64 (IntKind.wrap IntKind.i64 (2 * x_2) + 1) ≥ hi))
      (K () w_3)
      (join (Int) (fun (X_4 : Int → World → Prop) =>
        join (Bool) (fun (X_5 : Bool → World → Prop) =>
          cond (decide (IntKind.wrap IntKind.i64 (IntKind.wrap IntKind.i64 (IntKind.wrap IntKind.i64 (2 * x_2) + 1) + 1) < hi))
            (idx data (IntKind.wrap IntKind.i64 (first + IntKind.wrap IntKind.i64 (IntKind.wrap IntKind.i64 (2 * x_2) + 1))) 1 <|
            fun (a_6 : Addr) =>
            ld (Cell.int IntKind.u32) a_6 (World.drew w_3) <|
            fun (x_7 : Int) =>
            idx data (IntKind.wrap IntKind.i64 (IntKind.wrap IntKind.i64 (first + IntKind.wrap IntKind.i64 (IntKind.wrap IntKind.i64 (2 * x_2) + 1)) + 1)) 1 <|
            fun (a_8 : Addr) =>
            ld (Cell.int IntKind.u32) a_8 (World.drew w_3) <|
            fun (x_9 : Int) =>
            call Try.prog 49 ([Value.int IntKind.u32 x_7, Value.int IntKind.u32 x_9]) ([Ty1.one Cell.bool]) (World.drew w_3) <|
            fun (b_10 : Bool) (w_11 : World) =>
            X_5 b_10 w_11)
            (X_5 false (World.drew w_3))) <|
        fun (b_12 : Bool) (w_13 : World) =>
        cond b_12
          (X_4 (IntKind.wrap IntKind.i64 (IntKind.wrap IntKind.i64 (IntKind.wrap IntKind.i64 (2 * x_2) + 1) + 1)) w_13)
          (X_4 (IntKind.wrap IntKind.i64 (IntKind.wrap IntKind.i64 (2 * x_2) + 1)) w_13)) <|
      fun (x_14 : Int) (w_15 : World) =>
      idx data (IntKind.wrap IntKind.i64 (first + x_2)) 1 <|
      fun (a_16 : Addr) =>
      ld (Cell.int IntKind.u32) a_16 (World.drew w_15) <|
      fun (x_17 : Int) =>
      idx data (IntKind.wrap IntKind.i64 (first + x_14)) 1 <|
      fun (a_18 : Addr) =>
      ld (Cell.int IntKind.u32) a_18 (World.drew w_15) <|
      fun (x_19 : Int) =>
      call Try.prog 49 ([Value.int IntKind.u32 x_17, Value.int IntKind.u32 x_19]) ([Ty1.one Cell.bool]) (World.drew w_15) <|
      fun (b_20 : Bool) (w_21 : World) =>
      cond (!b_20)
        (K () w_21)
        (idx data (IntKind.wrap IntKind.i64 (first + x_14)) 1 <|
        fun (a_22 : Addr) =>
        ld (Cell.int IntKind.u32) a_22 (World.drew w_21) <|
        fun (x_23 : Int) =>
        idx data (IntKind.wrap IntKind.i64 (first + x_2)) 1 <|
        fun (a_24 : Addr) =>
        ld (Cell.int IntKind.u32) a_24 (World.drew w_21) <|
        fun (x_25 : Int) =>
        idx data (IntKind.wrap IntKind.i64 (first + x_2)) 1 <|
        fun (a_26 : Addr) =>
        st a_26 ([Value.int IntKind.u32 x_23]) (World.drew w_21) <|
        fun (w_27 : World) =>
        idx data (IntKind.wrap IntKind.i64 (first + x_14)) 1 <|
        fun (a_28 : Addr) =>
        st a_28 ([Value.int IntKind.u32 x_25]) w_27 <|
        fun (w_29 : World) =>
        X_1 x_14 w_29))) lo w
def slices_siftDownOrderedA : List Ann := [.n, .l [(8, .one (.int .i64))], .n, .n, .n, .j [(9, .one (.int .i64))], .j [(36, .one .bool)], .o [[0, 1, 2, 3, 4, 5, 6, 7, 8, 9, 10, 11, 12, 13, 14, 15, 16, 17, 18, 19]], .n, .n, .o [[0, 1, 2, 3, 4, 5, 6, 7, 8, 9, 10, 11, 12, 13]], .n, .o [[0, 1, 2, 3, 4, 5, 6, 7, 8, 9, 10, 11, 12, 13, 14, 15, 16, 17, 18, 19, 20, 21, 22, 23]]]
theorem slices_siftDownOrdered_of {data : Sl} {lo : Int} {hi : Int} {first : Int} {w : World} {K : Unit → World → Prop} (hF : slices_siftDownOrderedF data lo hi first K w) : call Try.prog 54 [.slice data.a data.len data.cap, .int .i64 lo, .int .i64 hi, .int .i64 first] [] w K :=
  calls_of_fnPt (an := slices_siftDownOrderedA) (ts := []) (args := [.slice data.a data.len data.cap, .int .i64 lo, .int .i64 hi, .int .i64 first]) Try.func54 (by kernel_rfl) ((show fnPt (std Try.prog) Try.prog Try.f54 slices_siftDownOrderedA [] [.slice data.a data.len data.cap, .int .i64 lo, .int .i64 hi, .int .i64 first] K w = slices_siftDownOrderedF data lo hi first K w by kernel_rfl).mpr hF)

/-- slices.nextPowerOfTwo -/
def slices_nextPowerOfTwoF (length : Int) (K : Int → World → Prop) (w : World) : Prop :=
  call Try.prog 40 ([Value.int IntKind.u64 (IntKind.wrap IntKind.u64 length)]) ([Ty1.one (Cell.int IntKind.i64)]) w <|
  fun (x_1 : Int) (w_2 : World) =>
  chk (0 ≤ x_1) <|
  K (IntKind.wrap IntKind.u64 (1 * 2 ^ min (Int.toNat x_1) 64)) w_2
def slices_nextPowerOfTwoA : List Ann := [.n, .n]
theorem slices_nextPowerOfTwo_of {length : Int} {w : World} {K : Int → World → Prop} (hF : slices_nextPowerOfTwoF length K w) : call Try.prog 55 [.int .i64 length] [.one (.int .u64)] w K :=
  calls_of_fnPt (an := slices_nextPowerOfTwoA) (ts := [.one (.int .u64)]) (args := [.int .i64 length]) Try.func55 (by kernel_rfl) ((show fnPt (std Try.prog) Try.prog Try.f55 slices_nextPowerOfTwoA [.one (.int .u64)] [.int .i64 length] K w = slices_nextPowerOfTwoF length K w by kernel_rfl).mpr hF)

/-- slices.xorshift.Next -/
def slices_xorshift_NextF (r : Option Addr) (K : Int → World → Prop) (w : World) : Prop :=
  nn r <|
  fun (a_1 : Addr) =>
  ld (Cell.int IntKind.u64) a_1 (World.drew w) <|
  fun (x_2 : Int) =>
  nn r <|
  fun (a_3 : Addr) =>
  ld (Cell.int IntKind.u64) a_3 (World.drew w) <|
  fun (x_4 : Int) =>
  nn r <|
  fun (a_5 : Addr) =>
  st a_5 ([Value.int IntKind.u64 (bits BinOp.xor IntKind.u64 x_2 (IntKind.wrap IntKind.u64 (x_4 * 2 ^ 13)))]) (World.drew w) <|
  fun (w_6 : World) =>
  nn r <|
  fun (a_7 : Addr) =>
  ld (Cell.int IntKind.u64) a_7 (World.drew w_6) <|
  fun (x_8 : Int) =>
  nn r <|
  fun (a_9 : Addr) =>
  ld (Cell.int IntKind.u64) a_9 (World.drew w_6) <|
  fun (x_10 : Int) =>
  nn r <|
  fun (a_11 : Addr) =>
  st a_11 ([Value.int IntKind.u64 (bits BinOp.xor IntKind.u64 x_8 (Int.fdiv x_10 (2 ^ 7)))]) (World.drew w_6) <|
  fun (w_12 : World) =>
  nn r <|
  fun (a_13 : Addr) =>
  ld (Cell.int IntKind.u64) a_13 (World.drew w_12) <|
  fun (x_14 : Int) =>
  nn r <|
  fun (a_15 : Addr) =>
  ld (Cell.int IntKind.u64) a_15 (World.drew w_12) <|
  fun (x_16 : Int) =>
  nn r <|
  fun (a_17 : Addr) =>
  st a_17 ([Value.int IntKind.u64 (bits BinOp.xor IntKind.u64 x_14 (IntKind.wrap IntKind.u64 (x_16 * 2 ^ 17)))]) (World.drew w_12) <|
  fun (w_18 : World) =>
  nn r <|
  fun (a_19 : Addr) =>
  ld (Cell.int IntKind.u64) a_19 w_18 <|
  fun (x_20 : Int) =>
  K x_20 w_18
def slices_xorshift_NextA : List Ann := [.n, .n, .o [[0, 1, 2, 3, 4, 5, 6, 7, 8, 9]], .n, .o [[0, 1, 2, 3, 4, 5, 6, 7, 8, 9]], .n, .o [[0, 1, 2, 3, 4, 5, 6, 7, 8, 9]], .n]
theorem slices_xorshift_Next_of {r : Option Addr} {w : World} {K : Int → World → Prop} (hF : slices_xorshift_NextF r K w) : call Try.prog 56 [.pointer r] [.one (.int .u64)] w K :=
  calls_of_fnPt (an := slices_xorshift_NextA) (ts := [.one (.int .u64)]) (args := [.pointer r]) Try.func56 (by kernel_rfl) ((show fnPt (std Try.prog) Try.prog Try.f56 slices_xorshift_NextA [.one (.int .u64)] [.pointer r] K w = slices_xorshift_NextF r K w by kernel_rfl).mpr hF)

/-- slices.medianAdjacentOrdered uint32  -/
def slices_medianAdjacentOrderedF (data : Sl) (a : Int) (swaps : Option Addr) (K : Int → World → Prop) (w : World) : Prop :=
  call Try.prog 58 ([Value.slice data.a data.len data.cap, Value.int IntKind.i64 (IntKind.wrap IntKind.i64 (a - 1)), Value.int IntKind.i64 a, Value.int IntKind.i64 (IntKind.wrap IntKind.i64 (a + 1)), Value.pointer swaps]) ([Ty1.one (Cell.int IntKind.i64)]) w <|
  fun (x_1 : Int) (w_2 : World) =>
  K x_1 w_2
def slices_medianAdjacentOrderedA : List Ann := [.n, .n]
theorem slices_medianAdjacentOrdered_of {data : Sl} {a : Int} {swaps : Option Addr} {w : World} {K : Int → World → Prop} (hF : slices_medianAdjacentOrderedF data a swaps K w) : call Try.prog 57 [.slice data.a data.len data.cap, .int .i64 a, .pointer swaps] [.one (.int .i64)] w K :=
  calls_of_fnPt (an := slices_medianAdjacentOrderedA) (ts := [.one (.int .i64)]) (args := [.slice data.a data.len data.cap, .int .i64 a, .pointer swaps]) Try.func57 (by kernel_rfl) ((show fnPt (std Try.prog) Try.prog Try.f57 slices_medianAdjacentOrderedA [.one (.int .i64)] [.slice data.a data.len data.cap, .int .i64 a, .pointer swaps] K w = slices_medianAdjacentOrderedF data a swaps K w by kernel_rfl).mpr hF)

/-- slices.medianOrdered uint32  -/
def slices_medianOrderedF (data : Sl) (a : Int) (b : Int) (c : Int) (swaps : Option Addr) (K : Int → World → Prop) (w : World) : Prop :=
  call Try.prog 60 ([Value.slice data.a data.len data.cap, Value.int IntKind.i64 a, Value.int IntKind.i64 b, Value.pointer swaps]) ([Ty1.one (Cell.int IntKind.i64), Ty1.one (Cell.int IntKind.i64)]) w <|
  fun (t_1 : Int × Int) (w_2 : World) =>
  call Try.prog 60 ([Value.slice data.a data.len data.cap, Value.int IntKind.i64 t_1.snd, Value.int IntKind.i64 c, Value.pointer swaps]) ([Ty1.one (Cell.int IntKind.i64), Ty1.one (Cell.int IntKind.i64)]) w_2 <|
  fun (t_3 : Int × Int) (w_4 : World) =>
  call Try.prog 60 ([Value.slice data.a data.len data.cap, Value.int IntKind.i64 t_1.fst, Value.int IntKind.i64 t_3.fst, Value.pointer swaps]) ([Ty1.one (Cell.int IntKind.i64), Ty1.one (Cell.int IntKind.i64)]) w_4 <|
  fun (t_5 : Int × Int) (w_6 : World) =>
  K t_5.snd w_6
def slices_medianOrderedA : List Ann := [.n, .n, .n, .n, .n]
theorem slices_medianOrdered_of {data : Sl} {a : Int} {b : Int} {c : Int} {swaps : Option Addr} {w : World} {K : Int → World → Prop} (hF : slices_medianOrderedF data a b c swaps K w) : call Try.prog 58 [.slice data.a data.len data.cap, .int .i64 a, .int .i64 b, .int .i64 c, .pointer swaps] [.one (.int .i64)] w K :=
  calls_of_fnPt (an := slices_medianOrderedA) (ts := [.one (.int .i64)]) (args := [.slice data.a data.len data.cap, .int .i64 a, .int .i64 b, .int .i64 c, .pointer swaps]) Try.func58 (by kernel_rfl) ((show fnPt (std Try.prog) Try.prog Try.f58 slices_medianOrderedA [.one (.int .i64)] [.slice data.a data.len data.cap, .int .i64 a, .int .i64 b, .int .i64 c, .pointer swaps] K w = slices_medianOrderedF data a b c swaps K w by kernel_rfl).mpr hF)

/-- cmp.isNaN uint32  -/
def cmp_isNaNF (x : Int) (K : Bool → World → Prop) (w : World) : Prop :=
  K (!x == x) w
def cmp_isNaNA : List Ann := [.n, .n]
theorem cmp_isNaN_of {x : Int} {w : World} {K : Bool → World → Prop} (hF : cmp_isNaNF x K w) : call Try.prog 59 [.int .u32 x] [.one .bool] w K :=
  calls_of_fnPt (an := cmp_isNaNA) (ts := [.one .bool]) (args := [.int .u32 x]) Try.func59 (by kernel_rfl) ((show fnPt (std Try.prog) Try.prog Try.f59 cmp_isNaNA [.one .bool] [.int .u32 x] K w = cmp_isNaNF x K w by kernel_rfl).mpr hF)

/-- slices.order2Ordered uint32  -/
def slices_order2OrderedF (data : Sl) (a : Int) (b : Int) (swaps : Option Addr) (K : (Int × Int) → World → Prop) (w : World) : Prop :=
  idx data b 1 <|
  fun (a_1 : Addr) =>
  ld (Cell.int IntKind.u32) a_1 (World.drew w) <|
  fun (x_2 : Int) =>
  idx data a 1 <|
  fun (a_3 : Addr) =>
  ld (Cell.int IntKind.u32) a_3 (World.drew w) <|
  fun (x_4 : Int) =>
  call Try.prog 49 ([Value.int IntKind.u32 x_2, Value.int IntKind.u32 x_4]) ([Ty1.one Cell.bool]) (World.drew w) <|
  fun (b_5 : Bool) (w_6 : World) =>
  cond b_5
    (nn swaps <|
    fun (a_7 : Addr) =>
    ld (Cell.int IntKind.i64) a_7 w_6 <|
    fun (x_8 : Int) =>
    nn swaps <|
    fun (a_9 : Addr) =>
    st a_9 ([Value.int IntKind.i64 (IntKind.wrap IntKind.i64 (x_8 + 1))]) w_6 <|
    fun (w_10 : World) =>
    K ((b, a)) w_10)
    (K ((a, b)) w_6)
def slices_order2OrderedA : List Ann := [.n, .n, .n, .o [[0, 1, 2, 3, 4, 5, 6, 7, 8]], .n, .n, .n]
theorem slices_order2Ordered_of {data : Sl} {a : Int} {b : Int} {swaps : Option Addr} {w : World} {K : (Int × Int) → World → Prop} (hF : slices_order2OrderedF data a b swaps K w) : call Try.prog 60 [.slice data.a data.len data.cap, .int .i64 a, .int .i64 b, .pointer swaps] [.one (.int .i64), .one (.int .i64)] w K :=
  calls_of_fnPt (an := slices_order2OrderedA) (ts := [.one (.int .i64), .one (.int .i64)]) (args := [.slice data.a data.len data.cap, .int .i64 a, .int .i64 b, .pointer swaps]) Try.func60 (by kernel_rfl) ((show fnPt (std Try.prog) Try.prog Try.f60 slices_order2OrderedA [.one (.int .i64), .one (.int .i64)] [.slice data.a data.len data.cap, .int .i64 a, .int .i64 b, .pointer swaps] K w = slices_order2OrderedF data a b swaps K w by kernel_rfl).mpr hF)

end Go.Proofs.Ytmmldfipakcmaaa
