/- The readable forms of functions of the program, each shown to be what the evaluator gives: printed by a program of this claim (wip/tools). No condition. -/
import Derived.Test.YtmmldfipakcmaaaPtG
import Derived.Test.YtmmldfipakcmaaaProg
import Derived.KernelRfl
set_option linter.unusedVariables false
set_option maxRecDepth 100000
namespace Go.Proofs.Ytmmldfipakcmaaa
open Go Go.Pt

/-- cashbook.cashbooklaw08.PoolPlays -/
def cashbooklaw08_PoolPlaysF (ops : Sl) (K : Bool → World → Prop) (w : World) : Prop :=
  cond (decide ((↑ops.len : Int) > 200))
    (call Try.prog 16 [] ([Ty1.one Cell.bool]) w <|
    fun (b_1 : Bool) (w_2 : World) =>
    K b_1 w_2)
    (call Try.prog 17 [] ([Ty1.one Cell.ptr]) w <|
    fun (p_3 : Option Addr) (w_4 : World) =>
    cond (Option.isNone p_3)
      (K false w_4)
      (loop (Sl × Int) (fun (X_5 : Sl × Int → World → Prop) (t_6 : Sl × Int) (w_7 : World) =>
        cond (decide (t_6.snd < (↑ops.len : Int)))
          (idx ops t_6.snd 2 <|
          fun (a_8 : Addr) =>
          ldA ([Cell.int IntKind.u8, Cell.int IntKind.u32]) a_8 w_7 <|
          fun (t_9 : Int × Int) =>
          new (Obj.cells #[Value.int IntKind.u8 0, Value.int IntKind.u32 0] 46) w_7 <|
          fun (r_10 : Nat) (w_11 : World) =>
          st ({ block := r_10, off := 0 }) ([Value.int IntKind.u8 t_9.fst, Value.int IntKind.u32 t_9.snd]) w_11 <|
          fun (w_12 : World) =>
          ldA ([Cell.int IntKind.u8, Cell.int IntKind.u32]) ({ block := r_10, off := 0 }) w_12 <|
          fun (t_13 : Int × Int) =>
          call Try.prog 18 ([Value.pointer p_3, Value.slice t_6.fst.a t_6.fst.len t_6.fst.cap, Value.agg #[Value.int IntKind.u8 t_13.fst, Value.int IntKind.u32 t_13.snd]]) ([Ty1.one Cell.slice, Ty1.one Cell.bool]) w_12 <|
          fun (t_14 : Sl × Bool) (w_15 : World) =>
          join (Bool) (fun (X_16 : Bool → World → Prop) =>
            cond (!t_14.snd)
              (X_16 true w_15)
              (call Try.prog 19 ([Value.pointer p_3]) ([Ty1.one (Cell.int IntKind.i64)]) w_15 <|
              fun (x_17 : Int) (w_18 : World) =>
              X_16 (!x_17 == (↑t_14.fst.len : Int)) w_18)) <|
          fun (b_19 : Bool) (w_20 : World) =>
          cond b_19
            (K false w_20)
            (X_5 ((t_14.fst, IntKind.wrap IntKind.i64 (t_6.snd + 1))) w_20))
          (call Try.prog 16 [] ([Ty1.one Cell.bool]) w_7 <|
          fun (b_21 : Bool) (w_22 : World) =>
          cond b_21
            (call Try.prog 21 ([Value.pointer p_3]) ([Ty1.one Cell.slice]) w_22 <|
            fun (s_23 : Sl) (w_24 : World) =>
            call Try.prog 20 ([Value.slice s_23.a s_23.len s_23.cap, Value.slice t_6.fst.a t_6.fst.len t_6.fst.cap]) ([Ty1.one Cell.bool]) w_24 <|
            fun (b_25 : Bool) (w_26 : World) =>
            K b_25 w_26)
            (K false w_22))) (({ a := none, len := 0, cap := 0 }, 0)) w_4))
def cashbooklaw08_PoolPlaysA : List Ann := [.n, .n, .n, .n, .n, .n, .n, .n, .n, .n, .n, .l [(4, .one .slice), (18, .one (.int .i64))], .n, .n, .n, .n, .n, .n, .j [(37, .one .bool)], .n, .n]
theorem cashbooklaw08_PoolPlays_of {ops : Sl} {w : World} {K : Bool → World → Prop} (hF : cashbooklaw08_PoolPlaysF ops K w) : call Try.prog 5 [.slice ops.a ops.len ops.cap] [.one .bool] w K :=
  calls_of_fnPt (an := cashbooklaw08_PoolPlaysA) (ts := [.one .bool]) (args := [.slice ops.a ops.len ops.cap]) Try.func5 (by kernel_rfl) ((show fnPt (std Try.prog) Try.prog Try.f5 cashbooklaw08_PoolPlaysA [.one .bool] [.slice ops.a ops.len ops.cap] K w = cashbooklaw08_PoolPlaysF ops K w by kernel_rfl).mpr hF)

/-- cashbook.cashbooklaw08.PoolSorts -/
def cashbooklaw08_PoolSortsF (l : Sl) (K : Bool → World → Prop) (w : World) : Prop :=
  cond (decide ((↑l.len : Int) > 300))
    (call Try.prog 16 [] ([Ty1.one Cell.bool]) w <|
    fun (b_1 : Bool) (w_2 : World) =>
    K b_1 w_2)
    (call Try.prog 17 [] ([Ty1.one Cell.ptr]) w <|
    fun (p_3 : Option Addr) (w_4 : World) =>
    cond (Option.isNone p_3)
      (K false w_4)
      (loop (Int × Int) (fun (X_5 : Int × Int → World → Prop) (t_6 : Int × Int) (w_7 : World) =>
        cond (decide (t_6.snd < (↑l.len : Int)))
          (join (Int) (fun (X_8 : Int → World → Prop) =>
            idx l t_6.snd 1 <|
            fun (a_9 : Addr) =>
            ld (Cell.int IntKind.u32) a_9 w_7 <|
            fun (x_10 : Int) =>
            call Try.prog 22 ([Value.pointer p_3, Value.int IntKind.u32 x_10]) ([Ty1.one Cell.bool]) w_7 <|
            fun (b_11 : Bool) (w_12 : World) =>
            cond b_11
              (X_8 (IntKind.wrap IntKind.i64 (t_6.fst + 1)) w_12)
              (X_8 t_6.fst w_12)) <|
          fun (x_13 : Int) (w_14 : World) =>
          X_5 ((x_13, IntKind.wrap IntKind.i64 (t_6.snd + 1))) w_14)
          (call Try.prog 21 ([Value.pointer p_3]) ([Ty1.one Cell.slice]) w_7 <|
          fun (s_15 : Sl) (w_16 : World) =>
          join (Bool) (fun (X_17 : Bool → World → Prop) =>
            cond (!(↑s_15.len : Int) == t_6.fst)
              (X_17 true w_16)
              (call Try.prog 19 ([Value.pointer p_3]) ([Ty1.one (Cell.int IntKind.i64)]) w_16 <|
              fun (x_18 : Int) (w_19 : World) =>
              X_17 (!x_18 == t_6.fst) w_19)) <|
          fun (b_20 : Bool) (w_21 : World) =>
          cond b_20
            (K false w_21)
            (loop (Int) (fun (X_22 : Int → World → Prop) (x_23 : Int) (w_24 : World) =>
              cond (decide (x_23 < (↑s_15.len : Int)))
                (idx s_15 x_23 1 <|
                fun (a_25 : Addr) =>
                ld (Cell.int IntKind.u32) a_25 w_24 <|
                fun (x_26 : Int) =>
                call Try.prog 23 ([Value.pointer p_3]) ([Ty1.one (Cell.int IntKind.u32), Ty1.one Cell.bool]) w_24 <|
                fun (t_27 : Int × Bool) (w_28 : World) =>
                join (Bool) (fun (X_29 : Bool → World → Prop) =>
                  cond (!t_27.snd)
                    (X_29 true w_28)
                    (cond (!t_27.fst == x_26)
                      (X_29 true w_28)
                      (cond (decide (x_23 > 0))
                        (idx s_15 (IntKind.wrap IntKind.i64 (x_23 - 1)) 1 <|
                        fun (a_30 : Addr) =>
                        ld (Cell.int IntKind.u32) a_30 w_28 <|
                        fun (x_31 : Int) =>
                        cond (decide (x_31 ≥ x_26))
                          (X_29 true w_28)
                          (call Try.prog 24 ([Value.pointer p_3, Value.int IntKind.u32 x_26]) ([Ty1.one Cell.bool]) w_28 <|
                          fun (b_32 : Bool) (w_33 : World) =>
                          X_29 b_32 w_33))
                        (call Try.prog 24 ([Value.pointer p_3, Value.int IntKind.u32 x_26]) ([Ty1.one Cell.bool]) w_28 <|
                        fun (b_34 : Bool) (w_35 : World) =>
                        X_29 b_34 w_35)))) <|
                fun (b_36 : Bool) (w_37 : World) =>
                cond b_36
                  (K false w_37)
                  (X_22 (IntKind.wrap IntKind.i64 (x_23 + 1)) w_37))
                (loop (Int) (fun (X_38 : Int → World → Prop) (x_39 : Int) (w_40 : World) =>
                  cond (decide (x_39 < (↑l.len : Int)))
                    (idx l x_39 1 <|
                    fun (a_41 : Addr) =>
                    ld (Cell.int IntKind.u32) a_41 w_40 <|
                    fun (x_42 : Int) =>
                    call Try.prog 25 ([Value.slice s_15.a s_15.len s_15.cap, Value.int IntKind.u32 x_42]) ([Ty1.one Cell.bool]) w_40 <|
                    fun (b_43 : Bool) (w_44 : World) =>
                    cond (!b_43)
                      (K false w_44)
                      (X_38 (IntKind.wrap IntKind.i64 (x_39 + 1)) w_44))
                    (call Try.prog 23 ([Value.pointer p_3]) ([Ty1.one (Cell.int IntKind.u32), Ty1.one Cell.bool]) w_40 <|
                    fun (t_45 : Int × Bool) (w_46 : World) =>
                    call Try.prog 16 [] ([Ty1.one Cell.bool]) w_46 <|
                    fun (b_47 : Bool) (w_48 : World) =>
                    cond b_47
                      (K (!t_45.snd) w_48)
                      (K false w_48))) 0 w_24)) 0 w_21))) ((0, 0)) w_4))
def cashbooklaw08_PoolSortsA : List Ann := [.n, .n, .n, .n, .n, .n, .n, .n, .n, .n, .n, .l [(4, .one (.int .i64)), (25, .one (.int .i64))], .n, .n, .j [(4, .one (.int .i64))], .n, .n, .n, .n, .j [(46, .one .bool)], .n, .n, .n, .l [(49, .one (.int .i64))], .n, .n, .n, .n, .n, .j [(83, .one .bool)], .n, .n, .n, .l [(87, .one (.int .i64))], .n, .n, .n, .n, .n, .n, .n, .n]
theorem cashbooklaw08_PoolSorts_of {l : Sl} {w : World} {K : Bool → World → Prop} (hF : cashbooklaw08_PoolSortsF l K w) : call Try.prog 6 [.slice l.a l.len l.cap] [.one .bool] w K :=
  calls_of_fnPt (an := cashbooklaw08_PoolSortsA) (ts := [.one .bool]) (args := [.slice l.a l.len l.cap]) Try.func6 (by kernel_rfl) ((show fnPt (std Try.prog) Try.prog Try.f6 cashbooklaw08_PoolSortsA [.one .bool] [.slice l.a l.len l.cap] K w = cashbooklaw08_PoolSortsF l K w by kernel_rfl).mpr hF)

/-- cashbook.cashbooklaw08.PoolOwn -/
def cashbooklaw08_PoolOwnF (ops : Sl) (by_ : Int) (K : Bool → World → Prop) (w : World) : Prop :=
  cond (decide ((↑ops.len : Int) > 100))
    (call Try.prog 16 [] ([Ty1.one Cell.bool]) w <|
    fun (b_1 : Bool) (w_2 : World) =>
    K b_1 w_2)
    (call Try.prog 17 [] ([Ty1.one Cell.ptr]) w <|
    fun (p_3 : Option Addr) (w_4 : World) =>
    cond (Option.isNone p_3)
      (K false w_4)
      (loop (Sl × Int) (fun (X_5 : Sl × Int → World → Prop) (t_6 : Sl × Int) (w_7 : World) =>
        cond (decide (t_6.snd < (↑ops.len : Int)))
          (idx ops t_6.snd 2 <|
          fun (a_8 : Addr) =>
          ldA ([Cell.int IntKind.u8, Cell.int IntKind.u32]) a_8 w_7 <|
          fun (t_9 : Int × Int) =>
          new (Obj.cells #[Value.int IntKind.u8 0, Value.int IntKind.u32 0] 46) w_7 <|
          fun (r_10 : Nat) (w_11 : World) =>
          st ({ block := r_10, off := 0 }) ([Value.int IntKind.u8 t_9.fst, Value.int IntKind.u32 t_9.snd]) w_11 <|
          fun (w_12 : World) =>
          ldA ([Cell.int IntKind.u8, Cell.int IntKind.u32]) ({ block := r_10, off := 0 }) w_12 <|
          fun (t_13 : Int × Int) =>
          call Try.prog 18 ([Value.pointer p_3, Value.slice t_6.fst.a t_6.fst.len t_6.fst.cap, Value.agg #[Value.int IntKind.u8 t_13.fst, Value.int IntKind.u32 t_13.snd]]) ([Ty1.one Cell.slice, Ty1.one Cell.bool]) w_12 <|
          fun (t_14 : Sl × Bool) (w_15 : World) =>
          call Try.prog 21 ([Value.pointer p_3]) ([Ty1.one Cell.slice]) w_15 <|
          fun (s_16 : Sl) (w_17 : World) =>
          loop (Int) (fun (X_18 : Int → World → Prop) (x_19 : Int) (w_20 : World) =>
            cond (decide (x_19 < (↑s_16.len : Int)))
              (idx s_16 x_19 1 <|
              fun (a_21 : Addr) =>
              ld (Cell.int IntKind.u32) a_21 w_20 <|
              fun (x_22 : Int) =>
              idx s_16 x_19 1 <|
              fun (a_23 : Addr) =>
              st a_23 ([Value.int IntKind.u32 (IntKind.wrap IntKind.u32 (x_22 + by_))]) w_20 <|
              fun (w_24 : World) =>
              X_18 (IntKind.wrap IntKind.i64 (x_19 + 1)) w_24)
              (X_5 ((t_14.fst, IntKind.wrap IntKind.i64 (t_6.snd + 1))) w_20)) 0 w_17)
          (call Try.prog 16 [] ([Ty1.one Cell.bool]) w_7 <|
          fun (b_25 : Bool) (w_26 : World) =>
          cond b_25
            (call Try.prog 21 ([Value.pointer p_3]) ([Ty1.one Cell.slice]) w_26 <|
            fun (s_27 : Sl) (w_28 : World) =>
            call Try.prog 20 ([Value.slice s_27.a s_27.len s_27.cap, Value.slice t_6.fst.a t_6.fst.len t_6.fst.cap]) ([Ty1.one Cell.bool]) w_28 <|
            fun (b_29 : Bool) (w_30 : World) =>
            K b_29 w_30)
            (K false w_26))) (({ a := none, len := 0, cap := 0 }, 0)) w_4))
def cashbooklaw08_PoolOwnA : List Ann := [.n, .n, .n, .n, .n, .n, .n, .n, .n, .n, .n, .l [(6, .one .slice), (20, .one (.int .i64))], .n, .n, .n, .n, .n, .n, .n, .l [(35, .one (.int .i64))], .n, .n, .n, .n, .n]
theorem cashbooklaw08_PoolOwn_of {ops : Sl} {by_ : Int} {w : World} {K : Bool → World → Prop} (hF : cashbooklaw08_PoolOwnF ops by_ K w) : call Try.prog 7 [.slice ops.a ops.len ops.cap, .int .u32 by_] [.one .bool] w K :=
  calls_of_fnPt (an := cashbooklaw08_PoolOwnA) (ts := [.one .bool]) (args := [.slice ops.a ops.len ops.cap, .int .u32 by_]) Try.func7 (by kernel_rfl) ((show fnPt (std Try.prog) Try.prog Try.f7 cashbooklaw08_PoolOwnA [.one .bool] [.slice ops.a ops.len ops.cap, .int .u32 by_] K w = cashbooklaw08_PoolOwnF ops by_ K w by kernel_rfl).mpr hF)

/-- cashbook.cashbooklaw08.PoolCopies -/
def cashbooklaw08_PoolCopiesF (ops : Sl) (more : Sl) (other : Sl) (K : Bool → World → Prop) (w : World) : Prop :=
  join (Bool) (fun (X_1 : Bool → World → Prop) =>
    cond (decide ((↑ops.len : Int) > 100))
      (X_1 true w)
      (cond (decide ((↑more.len : Int) > 100))
        (X_1 true w)
        (X_1 (decide ((↑other.len : Int) > 100)) w))) <|
  fun (b_2 : Bool) (w_3 : World) =>
  cond b_2
    (call Try.prog 16 [] ([Ty1.one Cell.bool]) w_3 <|
    fun (b_4 : Bool) (w_5 : World) =>
    K b_4 w_5)
    (call Try.prog 17 [] ([Ty1.one Cell.ptr]) w_3 <|
    fun (p_6 : Option Addr) (w_7 : World) =>
    cond (Option.isNone p_6)
      (K false w_7)
      (loop (Sl × Int) (fun (X_8 : Sl × Int → World → Prop) (t_9 : Sl × Int) (w_10 : World) =>
        cond (decide (t_9.snd < (↑ops.len : Int)))
          (idx ops t_9.snd 2 <|
          fun (a_11 : Addr) =>
          ldA ([Cell.int IntKind.u8, Cell.int IntKind.u32]) a_11 w_10 <|
          fun (t_12 : Int × Int) =>
          new (Obj.cells #[Value.int IntKind.u8 0, Value.int IntKind.u32 0] 46) w_10 <|
          fun (r_13 : Nat) (w_14 : World) =>
          st ({ block := r_13, off := 0 }) ([Value.int IntKind.u8 t_12.fst, Value.int IntKind.u32 t_12.snd]) w_14 <|
          fun (w_15 : World) =>
          ldA ([Cell.int IntKind.u8, Cell.int IntKind.u32]) ({ block := r_13, off := 0 }) w_15 <|
          fun (t_16 : Int × Int) =>
          call Try.prog 18 ([Value.pointer p_6, Value.slice t_9.fst.a t_9.fst.len t_9.fst.cap, Value.agg #[Value.int IntKind.u8 t_16.fst, Value.int IntKind.u32 t_16.snd]]) ([Ty1.one Cell.slice, Ty1.one Cell.bool]) w_15 <|
          fun (t_17 : Sl × Bool) (w_18 : World) =>
          X_8 ((t_17.fst, IntKind.wrap IntKind.i64 (t_9.snd + 1))) w_18)
          (call Try.prog 26 ([Value.pointer p_6]) ([Ty1.one Cell.ptr]) w_10 <|
          fun (p_19 : Option Addr) (w_20 : World) =>
          cond (Option.isNone p_19)
            (K false w_20)
            (loop (Sl × Int) (fun (X_21 : Sl × Int → World → Prop) (t_22 : Sl × Int) (w_23 : World) =>
              cond (decide (t_22.snd < (↑more.len : Int)))
                (idx more t_22.snd 2 <|
                fun (a_24 : Addr) =>
                ldA ([Cell.int IntKind.u8, Cell.int IntKind.u32]) a_24 w_23 <|
                fun (t_25 : Int × Int) =>
                new (Obj.cells #[Value.int IntKind.u8 0, Value.int IntKind.u32 0] 46) w_23 <|
                fun (r_26 : Nat) (w_27 : World) =>
                st ({ block := r_26, off := 0 }) ([Value.int IntKind.u8 t_25.fst, Value.int IntKind.u32 t_25.snd]) w_27 <|
                fun (w_28 : World) =>
                ldA ([Cell.int IntKind.u8, Cell.int IntKind.u32]) ({ block := r_26, off := 0 }) w_28 <|
                fun (t_29 : Int × Int) =>
                call Try.prog 18 ([Value.pointer p_6, Value.slice t_22.fst.a t_22.fst.len t_22.fst.cap, Value.agg #[Value.int IntKind.u8 t_29.fst, Value.int IntKind.u32 t_29.snd]]) ([Ty1.one Cell.slice, Ty1.one Cell.bool]) w_28 <|
                fun (t_30 : Sl × Bool) (w_31 : World) =>
                X_21 ((t_30.fst, IntKind.wrap IntKind.i64 (t_22.snd + 1))) w_31)
                (loop (Sl × Int) (fun (X_32 : Sl × Int → World → Prop) (t_33 : Sl × Int) (w_34 : World) =>
                  cond (decide (t_33.snd < (↑other.len : Int)))
                    (idx other t_33.snd 2 <|
                    fun (a_35 : Addr) =>
                    ldA ([Cell.int IntKind.u8, Cell.int IntKind.u32]) a_35 w_34 <|
                    fun (t_36 : Int × Int) =>
                    new (Obj.cells #[Value.int IntKind.u8 0, Value.int IntKind.u32 0] 46) w_34 <|
                    fun (r_37 : Nat) (w_38 : World) =>
                    st ({ block := r_37, off := 0 }) ([Value.int IntKind.u8 t_36.fst, Value.int IntKind.u32 t_36.snd]) w_38 <|
                    fun (w_39 : World) =>
                    ldA ([Cell.int IntKind.u8, Cell.int IntKind.u32]) ({ block := r_37, off := 0 }) w_39 <|
                    fun (t_40 : Int × Int) =>
                    call Try.prog 18 ([Value.pointer p_19, Value.slice t_33.fst.a t_33.fst.len t_33.fst.cap, Value.agg #[Value.int IntKind.u8 t_40.fst, Value.int IntKind.u32 t_40.snd]]) ([Ty1.one Cell.slice, Ty1.one Cell.bool]) w_39 <|
                    fun (t_41 : Sl × Bool) (w_42 : World) =>
                    X_32 ((t_41.fst, IntKind.wrap IntKind.i64 (t_33.snd + 1))) w_42)
                    (call Try.prog 16 [] ([Ty1.one Cell.bool]) w_34 <|
                    fun (b_43 : Bool) (w_44 : World) =>
                    cond b_43
                      (call Try.prog 21 ([Value.pointer p_6]) ([Ty1.one Cell.slice]) w_44 <|
                      fun (s_45 : Sl) (w_46 : World) =>
                      call Try.prog 20 ([Value.slice s_45.a s_45.len s_45.cap, Value.slice t_22.fst.a t_22.fst.len t_22.fst.cap]) ([Ty1.one Cell.bool]) w_46 <|
                      fun (b_47 : Bool) (w_48 : World) =>
                      cond b_47
                        (call Try.prog 21 ([Value.pointer p_19]) ([Ty1.one Cell.slice]) w_48 <|
                        fun (s_49 : Sl) (w_50 : World) =>
                        call Try.prog 20 ([Value.slice s_49.a s_49.len s_49.cap, Value.slice t_33.fst.a t_33.fst.len t_33.fst.cap]) ([Ty1.one Cell.bool]) w_50 <|
                        fun (b_51 : Bool) (w_52 : World) =>
                        K b_51 w_52)
                        (K false w_48))
                      (K false w_44))) ((t_9.fst, 0)) w_23)) ((t_9.fst, 0)) w_20))) (({ a := none, len := 0, cap := 0 }, 0)) w_7))
def cashbooklaw08_PoolCopiesA : List Ann := [.n, .n, .j [(29, .one .bool)], .n, .n, .n, .n, .n, .n, .n, .n, .l [(8, .one .slice), (36, .one (.int .i64))], .n, .n, .n, .n, .n, .n, .n, .n, .n, .n, .l [(8, .one .slice), (55, .one (.int .i64))], .n, .n, .n, .n, .n, .n, .l [(12, .one .slice), (69, .one (.int .i64))], .n, .n, .n, .n, .n]
theorem cashbooklaw08_PoolCopies_of {ops : Sl} {more : Sl} {other : Sl} {w : World} {K : Bool → World → Prop} (hF : cashbooklaw08_PoolCopiesF ops more other K w) : call Try.prog 8 [.slice ops.a ops.len ops.cap, .slice more.a more.len more.cap, .slice other.a other.len other.cap] [.one .bool] w K :=
  calls_of_fnPt (an := cashbooklaw08_PoolCopiesA) (ts := [.one .bool]) (args := [.slice ops.a ops.len ops.cap, .slice more.a more.len more.cap, .slice other.a other.len other.cap]) Try.func8 (by kernel_rfl) ((show fnPt (std Try.prog) Try.prog Try.f8 cashbooklaw08_PoolCopiesA [.one .bool] [.slice ops.a ops.len ops.cap, .slice more.a more.len more.cap, .slice other.a other.len other.cap] K w = cashbooklaw08_PoolCopiesF ops more other K w by kernel_rfl).mpr hF)

/-- cashbook.cashbooklaw08.fixed -/
def cashbooklaw08_fixedF  (K : Bool → World → Prop) (w : World) : Prop :=
  call Try.prog 17 [] ([Ty1.one Cell.ptr]) w <|
  fun (p_1 : Option Addr) (w_2 : World) =>
  cond (Option.isNone p_1)
    (K false w_2)
    (call Try.prog 22 ([Value.pointer p_1, Value.int IntKind.u32 5]) ([Ty1.one Cell.bool]) w_2 <|
    fun (b_3 : Bool) (w_4 : World) =>
    call Try.prog 22 ([Value.pointer p_1, Value.int IntKind.u32 3]) ([Ty1.one Cell.bool]) w_4 <|
    fun (b_5 : Bool) (w_6 : World) =>
    call Try.prog 22 ([Value.pointer p_1, Value.int IntKind.u32 9]) ([Ty1.one Cell.bool]) w_6 <|
    fun (b_7 : Bool) (w_8 : World) =>
    call Try.prog 23 ([Value.pointer p_1]) ([Ty1.one (Cell.int IntKind.u32), Ty1.one Cell.bool]) w_8 <|
    fun (t_9 : Int × Bool) (w_10 : World) =>
    call Try.prog 22 ([Value.pointer p_1, Value.int IntKind.u32 3]) ([Ty1.one Cell.bool]) w_10 <|
    fun (b_11 : Bool) (w_12 : World) =>
    call Try.prog 23 ([Value.pointer p_1]) ([Ty1.one (Cell.int IntKind.u32), Ty1.one Cell.bool]) w_12 <|
    fun (t_13 : Int × Bool) (w_14 : World) =>
    call Try.prog 23 ([Value.pointer p_1]) ([Ty1.one (Cell.int IntKind.u32), Ty1.one Cell.bool]) w_14 <|
    fun (t_15 : Int × Bool) (w_16 : World) =>
    cond b_3
      (cond b_5
        (cond b_7
          (cond b_11
            (cond t_9.snd
              (cond (t_9.fst == 3)
                (cond (t_13.fst == 3)
                  (cond (t_15.fst == 5)
                    (call Try.prog 19 ([Value.pointer p_1]) ([Ty1.one (Cell.int IntKind.i64)]) w_16 <|
                    fun (x_17 : Int) (w_18 : World) =>
                    K (x_17 == 1) w_18)
                    (K false w_16))
                  (K false w_16))
                (K false w_16))
              (K false w_16))
            (K false w_16))
          (K false w_16))
        (K false w_16))
      (K false w_16))
def cashbooklaw08_fixedA : List Ann := [.n, .n, .n, .n, .n, .n, .n, .n, .n, .n, .n]
theorem cashbooklaw08_fixed_of  {w : World} {K : Bool → World → Prop} (hF : cashbooklaw08_fixedF  K w) : call Try.prog 16 [] [.one .bool] w K :=
  calls_of_fnPt (an := cashbooklaw08_fixedA) (ts := [.one .bool]) (args := []) Try.func16 (by kernel_rfl) ((show fnPt (std Try.prog) Try.prog Try.f16 cashbooklaw08_fixedA [.one .bool] [] K w = cashbooklaw08_fixedF  K w by kernel_rfl).mpr hF)

/-- cashbook.pool.New -/
def pool_NewF  (K : ((Option Addr)) → World → Prop) (w : World) : Prop :=
  new (Obj.map #[] 0) w <|
  fun (r_1 : Nat) (w_2 : World) =>
  new (Obj.cells #[Value.slice none 0 0, Value.map (some r_1)] 69) w_2 <|
  fun (r_3 : Nat) (w_4 : World) =>
  K (some { block := r_3, off := 0 }) w_4
def pool_NewA : List Ann := [.n, .n]
theorem pool_New_of  {w : World} {K : ((Option Addr)) → World → Prop} (hF : pool_NewF  K w) : call Try.prog 17 [] [.one .ptr] w K :=
  calls_of_fnPt (an := pool_NewA) (ts := [.one .ptr]) (args := []) Try.func17 (by kernel_rfl) ((show fnPt (std Try.prog) Try.prog Try.f17 pool_NewA [.one .ptr] [] K w = pool_NewF  K w by kernel_rfl).mpr hF)

/-- cashbook.cashbooklaw08.step -/
def cashbooklaw08_stepF (p : Option Addr) (l : Sl) (o0 : Int) (o1 : Int) (K : (Sl × Bool) → World → Prop) (w : World) : Prop :=
  new (Obj.cells #[Value.int IntKind.u8 o0, Value.int IntKind.u32 o1] 46) w <|
  fun (r_1 : Nat) (w_2 : World) =>
  ld (Cell.int IntKind.u8) ({ block := r_1, off := 0 }) w_2 <|
  fun (x_3 : Int) =>
  cond (Int.tmod x_3 3 == 0)
    (ld (Cell.int IntKind.u32) ({ block := r_1, off := 1 }) (World.drew w_2) <|
    fun (x_4 : Int) =>
    ld (Cell.int IntKind.u32) ({ block := r_1, off := 1 }) (World.drew w_2) <|
    fun (x_5 : Int) =>
    ld (Cell.int IntKind.u32) ({ block := r_1, off := 1 }) (World.drew w_2) <|
    fun (x_6 : Int) =>
    call Try.prog 34 ([Value.slice l.a l.len l.cap, Value.int IntKind.u32 x_4]) ([Ty1.one Cell.slice]) (World.drew w_2) <|
    fun (s_7 : Sl) (w_8 : World) =>
    held [fun (w_9 : Go.World) => World.cell? w_9 ({ block := r_1, off := 1 }) = some (Value.int IntKind.u32 x_6), fun (w_10 : Go.World) => World.cell? w_10 ({ block := r_1, off := 1 }) = some (Value.int IntKind.u32 x_5)] w_8 <|
    call Try.prog 22 ([Value.pointer p, Value.int IntKind.u32 x_5]) ([Ty1.one Cell.bool]) w_8 <|
    fun (b_11 : Bool) (w_12 : World) =>
    held [fun (w_13 : Go.World) => World.cell? w_13 ({ block := r_1, off := 1 }) = some (Value.int IntKind.u32 x_6)] w_12 <|
    call Try.prog 25 ([Value.slice l.a l.len l.cap, Value.int IntKind.u32 x_6]) ([Ty1.one Cell.bool]) w_12 <|
    fun (b_14 : Bool) (w_15 : World) =>
    K ((s_7, b_11 == !b_14)) w_15)
    (cond (Int.tmod x_3 3 == 1)
      (call Try.prog 23 ([Value.pointer p]) ([Ty1.one (Cell.int IntKind.u32), Ty1.one Cell.bool]) w_2 <|
      fun (t_16 : Int × Bool) (w_17 : World) =>
      cond ((↑l.len : Int) == 0)
        (cond (!t_16.snd)
          (K ((l, t_16.fst == 0)) w_17)
          (K ((l, false)) w_17))
        (slc l (some 1) none none 1 <|
        fun (s_18 : Sl) =>
        cond t_16.snd
          (idx l 0 1 <|
          fun (a_19 : Addr) =>
          ld (Cell.int IntKind.u32) a_19 (World.drew w_17) <|
          fun (x_20 : Int) =>
          K ((s_18, t_16.fst == x_20)) (World.drew w_17))
          (K ((s_18, false)) (World.drew w_17))))
      (ld (Cell.int IntKind.u32) ({ block := r_1, off := 1 }) (World.drew w_2) <|
      fun (x_21 : Int) =>
      ld (Cell.int IntKind.u32) ({ block := r_1, off := 1 }) (World.drew w_2) <|
      fun (x_22 : Int) =>
      call Try.prog 24 ([Value.pointer p, Value.int IntKind.u32 x_21]) ([Ty1.one Cell.bool]) (World.drew w_2) <|
      fun (b_23 : Bool) (w_24 : World) =>
      held [fun (w_25 : Go.World) => World.cell? w_25 ({ block := r_1, off := 1 }) = some (Value.int IntKind.u32 x_22)] w_24 <|
      call Try.prog 25 ([Value.slice l.a l.len l.cap, Value.int IntKind.u32 x_22]) ([Ty1.one Cell.bool]) w_24 <|
      fun (b_26 : Bool) (w_27 : World) =>
      K ((l, b_23 == b_26)) w_27))
def cashbooklaw08_stepA : List Ann := [.n, .n, .n, .n, .n, .o [[0, 1, 2, 4, 5, 6, 8, 9, 10, 3, 7, 11, 12, 13, 14, 15]], .n, .n, .n, .n, .n, .n, .o [[0, 1, 2, 3, 4, 5, 6, 7, 8, 9, 10, 11]], .n, .o [[0, 1, 2, 3, 5, 6, 7, 4, 8, 9, 10, 11]]]
theorem cashbooklaw08_step_of {p : Option Addr} {l : Sl} {o0 : Int} {o1 : Int} {w : World} {K : (Sl × Bool) → World → Prop} (hF : cashbooklaw08_stepF p l o0 o1 K w) : call Try.prog 18 [.pointer p, .slice l.a l.len l.cap, .agg #[.int .u8 o0, .int .u32 o1]] [.one .slice, .one .bool] w K :=
  calls_of_fnPt (an := cashbooklaw08_stepA) (ts := [.one .slice, .one .bool]) (args := [.pointer p, .slice l.a l.len l.cap, .agg #[.int .u8 o0, .int .u32 o1]]) Try.func18 (by kernel_rfl) ((show fnPt (std Try.prog) Try.prog Try.f18 cashbooklaw08_stepA [.one .slice, .one .bool] [.pointer p, .slice l.a l.len l.cap, .agg #[.int .u8 o0, .int .u32 o1]] K w = cashbooklaw08_stepF p l o0 o1 K w by kernel_rfl).mpr hF)

/-- cashbook.pool.Pool.Len -/
def pool_Pool_LenF (p : Option Addr) (K : Int → World → Prop) (w : World) : Prop :=
  nn p <|
  fun (a_1 : Addr) =>
  ld Cell.slice a_1 w <|
  fun (s_2 : Sl) =>
  K (↑s_2.len : Int) w
def pool_Pool_LenA : List Ann := [.n, .n]
theorem pool_Pool_Len_of {p : Option Addr} {w : World} {K : Int → World → Prop} (hF : pool_Pool_LenF p K w) : call Try.prog 19 [.pointer p] [.one (.int .i64)] w K :=
  calls_of_fnPt (an := pool_Pool_LenA) (ts := [.one (.int .i64)]) (args := [.pointer p]) Try.func19 (by kernel_rfl) ((show fnPt (std Try.prog) Try.prog Try.f19 pool_Pool_LenA [.one (.int .i64)] [.pointer p] K w = pool_Pool_LenF p K w by kernel_rfl).mpr hF)

/-- cashbook.cashbookref08.Same -/
def cashbookref08_SameF (a : Sl) (b : Sl) (K : Bool → World → Prop) (w : World) : Prop :=
  cond (!(↑a.len : Int) == (↑b.len : Int))
    (K false w)
    (loop (Int) (fun (X_1 : Int → World → Prop) (x_2 : Int) (w_3 : World) =>
      cond (decide (x_2 < (↑a.len : Int)))
        (idx a x_2 1 <|
        fun (a_4 : Addr) =>
        ld (Cell.int IntKind.u32) a_4 (World.drew w_3) <|
        fun (x_5 : Int) =>
        idx b x_2 1 <|
        fun (a_6 : Addr) =>
        ld (Cell.int IntKind.u32) a_6 (World.drew w_3) <|
        fun (x_7 : Int) =>
        cond (!x_5 == x_7)
          (K false (World.drew w_3))
          (X_1 (IntKind.wrap IntKind.i64 (x_2 + 1)) (World.drew w_3)))
        (K true w_3)) 0 w)
def cashbookref08_SameA : List Ann := [.n, .n, .n, .n, .n, .n, .l [(5, .one (.int .i64))], .n, .n, .n, .n, .o [[0, 1, 2, 3, 4, 5, 6, 7, 8]], .n, .n]
theorem cashbookref08_Same_of {a : Sl} {b : Sl} {w : World} {K : Bool → World → Prop} (hF : cashbookref08_SameF a b K w) : call Try.prog 20 [.slice a.a a.len a.cap, .slice b.a b.len b.cap] [.one .bool] w K :=
  calls_of_fnPt (an := cashbookref08_SameA) (ts := [.one .bool]) (args := [.slice a.a a.len a.cap, .slice b.a b.len b.cap]) Try.func20 (by kernel_rfl) ((show fnPt (std Try.prog) Try.prog Try.f20 cashbookref08_SameA [.one .bool] [.slice a.a a.len a.cap, .slice b.a b.len b.cap] K w = cashbookref08_SameF a b K w by kernel_rfl).mpr hF)

/-- cashbook.pool.Pool.List -/
def pool_Pool_ListF (p : Option Addr) (K : Sl → World → Prop) (w : World) : Prop :=
  nn p <|
  fun (a_1 : Addr) =>
  ld Cell.slice a_1 w <|
  fun (s_2 : Sl) =>
  call Try.prog 35 ([Value.slice s_2.a s_2.len s_2.cap]) ([Ty1.one Cell.slice]) w <|
  fun (s_3 : Sl) (w_4 : World) =>
  call Try.prog 36 ([Value.slice s_3.a s_3.len s_3.cap]) [] w_4 <|
  fun (x_5 : PUnit) (w_6 : World) =>
  K s_3 w_6
def pool_Pool_ListA : List Ann := [.n, .n, .n, .n]
theorem pool_Pool_List_of {p : Option Addr} {w : World} {K : Sl → World → Prop} (hF : pool_Pool_ListF p K w) : call Try.prog 21 [.pointer p] [.one .slice] w K :=
  calls_of_fnPt (an := pool_Pool_ListA) (ts := [.one .slice]) (args := [.pointer p]) Try.func21 (by kernel_rfl) ((show fnPt (std Try.prog) Try.prog Try.f21 pool_Pool_ListA [.one .slice] [.pointer p] K w = pool_Pool_ListF p K w by kernel_rfl).mpr hF)

/-- cashbook.pool.Pool.Put -/
def pool_Pool_PutF (p : Option Addr) (n : Int) (K : Bool → World → Prop) (w : World) : Prop :=
  call Try.prog 24 ([Value.pointer p, Value.int IntKind.u32 n]) ([Ty1.one Cell.bool]) w <|
  fun (b_1 : Bool) (w_2 : World) =>
  cond b_1
    (K false w_2)
    (nn p <|
    fun (a_3 : Addr) =>
    ld Cell.map ({ block := a_3.block, off := a_3.off + 1 }) w_2 <|
    fun (p_4 : Option Nat) =>
    runU ((Instr.mapUpdate 66 (Value.map p_4) (Value.int IntKind.u32 n) (Value.int IntKind.i64 1)).run Try.prog w_2) <|
    fun (w_5 : World) =>
    nn p <|
    fun (a_6 : Addr) =>
    call Try.prog 37 ([Value.iface 74 (Value.pointer (some a_6)), Value.iface 31 (Value.int IntKind.u32 n)]) [] w_5 <|
    fun (x_7 : PUnit) (w_8 : World) =>
    K true w_8)
def pool_Pool_PutA : List Ann := [.n, .n, .n, .n, .n, .n, .n]
theorem pool_Pool_Put_of {p : Option Addr} {n : Int} {w : World} {K : Bool → World → Prop} (hF : pool_Pool_PutF p n K w) : call Try.prog 22 [.pointer p, .int .u32 n] [.one .bool] w K :=
  calls_of_fnPt (an := pool_Pool_PutA) (ts := [.one .bool]) (args := [.pointer p, .int .u32 n]) Try.func22 (by kernel_rfl) ((show fnPt (std Try.prog) Try.prog Try.f22 pool_Pool_PutA [.one .bool] [.pointer p, .int .u32 n] K w = pool_Pool_PutF p n K w by kernel_rfl).mpr hF)

/-- cashbook.pool.Pool.Take -/
def pool_Pool_TakeF (p : Option Addr) (K : (Int × Bool) → World → Prop) (w : World) : Prop :=
  nn p <|
  fun (a_1 : Addr) =>
  ld Cell.slice a_1 w <|
  fun (s_2 : Sl) =>
  cond ((↑s_2.len : Int) == 0)
    (K ((0, false)) w)
    (nn p <|
    fun (a_3 : Addr) =>
    call Try.prog 38 ([Value.iface 74 (Value.pointer (some a_3))]) ([Ty1.one Cell.any]) w <|
    fun (v_4 : Value) (w_5 : World) =>
    runQ [Ty1.one (Cell.int IntKind.u32), Ty1.one Cell.bool] (fun (w_6 : Go.World) => (Instr.typeAssert v_4 20 31 true).run Try.prog w_6) w_5 <|
    fun (t_7 : Int × Bool) =>
    nn p <|
    fun (a_8 : Addr) =>
    ld Cell.map ({ block := a_8.block, off := a_8.off + 1 }) w_5 <|
    fun (p_9 : Option Nat) =>
    run [] ((Builtin.delete_ (#[66, 31]) 0 (#[Value.map p_9, Value.int IntKind.u32 t_7.fst])).run Try.prog w_5) <|
    fun (x_10 : PUnit) (w_11 : World) =>
    K t_7 w_11)
def pool_Pool_TakeA : List Ann := [.n, .n, .n, .n, .n, .n, .n]
theorem pool_Pool_Take_of {p : Option Addr} {w : World} {K : (Int × Bool) → World → Prop} (hF : pool_Pool_TakeF p K w) : call Try.prog 23 [.pointer p] [.one (.int .u32), .one .bool] w K :=
  calls_of_fnPt (an := pool_Pool_TakeA) (ts := [.one (.int .u32), .one .bool]) (args := [.pointer p]) Try.func23 (by kernel_rfl) ((show fnPt (std Try.prog) Try.prog Try.f23 pool_Pool_TakeA [.one (.int .u32), .one .bool] [.pointer p] K w = pool_Pool_TakeF p K w by kernel_rfl).mpr hF)

/-- cashbook.pool.Pool.Has -/
def pool_Pool_HasF (p : Option Addr) (n : Int) (K : Bool → World → Prop) (w : World) : Prop :=
  nn p <|
  fun (a_1 : Addr) =>
  ld Cell.map ({ block := a_1.block, off := a_1.off + 1 }) w <|
  fun (p_2 : Option Nat) =>
  runQ [Ty1.one (Cell.int IntKind.i64)] (fun (w_3 : Go.World) => (Instr.lookup 66 (Value.map p_2) (Value.int IntKind.u32 n) false).run Try.prog w_3) w <|
  fun (x_4 : Int) =>
  K (x_4 == 1) w
def pool_Pool_HasA : List Ann := [.n, .n]
theorem pool_Pool_Has_of {p : Option Addr} {n : Int} {w : World} {K : Bool → World → Prop} (hF : pool_Pool_HasF p n K w) : call Try.prog 24 [.pointer p, .int .u32 n] [.one .bool] w K :=
  calls_of_fnPt (an := pool_Pool_HasA) (ts := [.one .bool]) (args := [.pointer p, .int .u32 n]) Try.func24 (by kernel_rfl) ((show fnPt (std Try.prog) Try.prog Try.f24 pool_Pool_HasA [.one .bool] [.pointer p, .int .u32 n] K w = pool_Pool_HasF p n K w by kernel_rfl).mpr hF)

/-- cashbook.cashbookref08.Has -/
def cashbookref08_HasF (l : Sl) (n : Int) (K : Bool → World → Prop) (w : World) : Prop :=
  loop (Int) (fun (X_1 : Int → World → Prop) (x_2 : Int) (w_3 : World) =>
    cond (decide (x_2 < (↑l.len : Int)))
      (idx l x_2 1 <|
      fun (a_4 : Addr) =>
      ld (Cell.int IntKind.u32) a_4 w_3 <|
      fun (x_5 : Int) =>
      cond (x_5 == n)
        (K true w_3)
        (X_1 (IntKind.wrap IntKind.i64 (x_2 + 1)) w_3))
      (K false w_3)) 0 w
def cashbookref08_HasA : List Ann := [.n, .n, .n, .l [(5, .one (.int .i64))], .n, .n, .n, .n, .n, .n]
theorem cashbookref08_Has_of {l : Sl} {n : Int} {w : World} {K : Bool → World → Prop} (hF : cashbookref08_HasF l n K w) : call Try.prog 25 [.slice l.a l.len l.cap, .int .u32 n] [.one .bool] w K :=
  calls_of_fnPt (an := cashbookref08_HasA) (ts := [.one .bool]) (args := [.slice l.a l.len l.cap, .int .u32 n]) Try.func25 (by kernel_rfl) ((show fnPt (std Try.prog) Try.prog Try.f25 cashbookref08_HasA [.one .bool] [.slice l.a l.len l.cap, .int .u32 n] K w = cashbookref08_HasF l n K w by kernel_rfl).mpr hF)

/-- cashbook.pool.Pool.Copy -/
def pool_Pool_CopyF (p : Option Addr) (K : ((Option Addr)) → World → Prop) (w : World) : Prop :=
  call Try.prog 17 [] ([Ty1.one Cell.ptr]) w <|
  fun (p_1 : Option Addr) (w_2 : World) =>
  nn p <|
  fun (a_3 : Addr) =>
  ld Cell.slice a_3 w_2 <|
  fun (s_4 : Sl) =>
  loop (Int) (fun (X_5 : Int → World → Prop) (x_6 : Int) (w_7 : World) =>
    cond (decide (x_6 < (↑s_4.len : Int)))
      (idx s_4 x_6 1 <|
      fun (a_8 : Addr) =>
      ld (Cell.int IntKind.u32) a_8 w_7 <|
      fun (x_9 : Int) =>
      call Try.prog 22 ([Value.pointer p_1, Value.int IntKind.u32 x_9]) ([Ty1.one Cell.bool]) w_7 <|
      fun (b_10 : Bool) (w_11 : World) =>
      X_5 (IntKind.wrap IntKind.i64 (x_6 + 1)) w_11)
      (K p_1 w_7)) 0 w_2
def pool_Pool_CopyA : List Ann := [.n, .n, .n, .n, .l [(12, .one (.int .i64))], .n, .n, .n, .n, .n]
theorem pool_Pool_Copy_of {p : Option Addr} {w : World} {K : ((Option Addr)) → World → Prop} (hF : pool_Pool_CopyF p K w) : call Try.prog 26 [.pointer p] [.one .ptr] w K :=
  calls_of_fnPt (an := pool_Pool_CopyA) (ts := [.one .ptr]) (args := [.pointer p]) Try.func26 (by kernel_rfl) ((show fnPt (std Try.prog) Try.prog Try.f26 pool_Pool_CopyA [.one .ptr] [.pointer p] K w = pool_Pool_CopyF p K w by kernel_rfl).mpr hF)

/-- cashbook.cashbookref08.Put -/
def cashbookref08_PutF (l : Sl) (n : Int) (K : Sl → World → Prop) (w : World) : Prop :=
  new (Obj.cells #[] 31) w <|
  fun (r_1 : Nat) (w_2 : World) =>
  loop (Sl × Bool × Int) (fun (X_3 : Sl × Bool × Int → World → Prop) (t_4 : Sl × Bool × Int) (w_5 : World) =>
    cond (decide (t_4.snd.snd < (↑l.len : Int)))
      (join (Sl × Bool) (fun (X_6 : Sl × Bool → World → Prop) =>
        join (Sl × Bool) (fun (X_7 : Sl × Bool → World → Prop) =>
          join (Bool) (fun (X_8 : Bool → World → Prop) =>
            cond (!t_4.snd.fst)
              (idx l t_4.snd.snd 1 <|
              fun (a_9 : Addr) =>
              ld (Cell.int IntKind.u32) a_9 w_5 <|
              fun (x_10 : Int) =>
              X_8 (decide (x_10 ≥ n)) w_5)
              (X_8 false w_5)) <|
          fun (b_11 : Bool) (w_12 : World) =>
          cond b_11
            (new (Obj.cells #[Value.int IntKind.u32 n] 31) w_12 <|
            fun (r_13 : Nat) (w_14 : World) =>
            run [Ty1.one Cell.slice] ((Builtin.append_ (#[44, 44]) 44 (#[Value.slice t_4.fst.a t_4.fst.len t_4.fst.cap, Value.slice (some { block := r_13, off := 0 }) 1 1])).run Try.prog w_14) <|
            fun (s_15 : Sl) (w_16 : World) =>
            X_7 ((s_15, true)) w_16)
            (X_7 ((t_4.fst, t_4.snd.fst)) w_12)) <|
        fun (t_17 : Sl × Bool) (w_18 : World) =>
        idx l t_4.snd.snd 1 <|
        fun (a_19 : Addr) =>
        ld (Cell.int IntKind.u32) a_19 w_18 <|
        fun (x_20 : Int) =>
        cond (!x_20 == n)
          (idx l t_4.snd.snd 1 <|
          fun (a_21 : Addr) =>
          ld (Cell.int IntKind.u32) a_21 w_18 <|
          fun (x_22 : Int) =>
          new (Obj.cells #[Value.int IntKind.u32 x_22] 31) w_18 <|
          fun (r_23 : Nat) (w_24 : World) =>
          run [Ty1.one Cell.slice] ((Builtin.append_ (#[44, 44]) 44 (#[Value.slice t_17.fst.a t_17.fst.len t_17.fst.cap, Value.slice (some { block := r_23, off := 0 }) 1 1])).run Try.prog w_24) <|
          fun (s_25 : Sl) (w_26 : World) =>
          X_6 ((s_25, t_17.snd)) w_26)
          (X_6 t_17 w_18)) <|
      fun (t_27 : Sl × Bool) (w_28 : World) =>
      X_3 ((t_27.fst, t_27.snd, IntKind.wrap IntKind.i64 (t_4.snd.snd + 1))) w_28)
      (join (Sl) (fun (X_29 : Sl → World → Prop) =>
        cond (!t_4.snd.fst)
          (new (Obj.cells #[Value.int IntKind.u32 n] 31) w_5 <|
          fun (r_30 : Nat) (w_31 : World) =>
          run [Ty1.one Cell.slice] ((Builtin.append_ (#[44, 44]) 44 (#[Value.slice t_4.fst.a t_4.fst.len t_4.fst.cap, Value.slice (some { block := r_30, off := 0 }) 1 1])).run Try.prog w_31) <|
          fun (s_32 : Sl) (w_33 : World) =>
          X_29 s_32 w_33)
          (X_29 t_4.fst w_5)) <|
      fun (s_34 : Sl) (w_35 : World) =>
      K s_34 w_35)) (({ a := some { block := r_1, off := 0 }, len := 0, cap := 0 }, false, 0)) w_2
def cashbookref08_PutA : List Ann := [.n, .n, .n, .n, .n, .l [(5, .one .slice), (6, .one .bool), (7, .one (.int .i64))], .n, .n, .j [(5, .one .slice), (6, .one .bool)], .j [(5, .one .slice), (6, .one .bool)], .j [(24, .one .bool)], .n, .n, .j [(5, .one .slice)], .n, .n]
theorem cashbookref08_Put_of {l : Sl} {n : Int} {w : World} {K : Sl → World → Prop} (hF : cashbookref08_PutF l n K w) : call Try.prog 34 [.slice l.a l.len l.cap, .int .u32 n] [.one .slice] w K :=
  calls_of_fnPt (an := cashbookref08_PutA) (ts := [.one .slice]) (args := [.slice l.a l.len l.cap, .int .u32 n]) Try.func34 (by kernel_rfl) ((show fnPt (std Try.prog) Try.prog Try.f34 cashbookref08_PutA [.one .slice] [.slice l.a l.len l.cap, .int .u32 n] K w = cashbookref08_PutF l n K w by kernel_rfl).mpr hF)

/-- slices.Clone   uint32,uint32  -/
def slices_CloneF (s : Sl) (K : Sl → World → Prop) (w : World) : Prop :=
  cond (Option.isNone s.a)
    (K ({ a := none, len := 0, cap := 0 }) w)
    (new (Obj.cells #[] 31) w <|
    fun (r_1 : Nat) (w_2 : World) =>
    run [Ty1.one Cell.slice] ((Builtin.append_ (#[44, 44]) 44 (#[Value.slice (some { block := r_1, off := 0 }) 0 0, Value.slice s.a s.len s.cap])).run Try.prog w_2) <|
    fun (s_3 : Sl) (w_4 : World) =>
    K s_3 w_4)
def slices_CloneA : List Ann := [.n, .n, .n, .n, .n]
theorem slices_Clone_of {s : Sl} {w : World} {K : Sl → World → Prop} (hF : slices_CloneF s K w) : call Try.prog 35 [.slice s.a s.len s.cap] [.one .slice] w K :=
  calls_of_fnPt (an := slices_CloneA) (ts := [.one .slice]) (args := [.slice s.a s.len s.cap]) Try.func35 (by kernel_rfl) ((show fnPt (std Try.prog) Try.prog Try.f35 slices_CloneA [.one .slice] [.slice s.a s.len s.cap] K w = slices_CloneF s K w by kernel_rfl).mpr hF)

/-- container.heap.Push -/
def heap_PushF (h : Value) (x : Value) (K : Unit → World → Prop) (w : World) : Prop :=
  inv Try.prog h "Push" [x] [] w <|
  fun (x_1 : PUnit) (w_2 : World) =>
  inv Try.prog h "Len" [] ([Ty1.one (Cell.int IntKind.i64)]) w_2 <|
  fun (x_3 : Int) (w_4 : World) =>
  call Try.prog 41 ([h, Value.int IntKind.i64 (IntKind.wrap IntKind.i64 (x_3 - 1))]) [] w_4 <|
  fun (x_5 : PUnit) (w_6 : World) =>
  K () w_6
def heap_PushA : List Ann := [.n]
theorem heap_Push_of {h : Value} {x : Value} {w : World} {K : Unit → World → Prop} (hF : heap_PushF h x K w) : call Try.prog 37 [h, x] [] w K :=
  calls_of_fnPt (an := heap_PushA) (ts := []) (args := [h, x]) Try.func37 (by kernel_rfl) ((show fnPt (std Try.prog) Try.prog Try.f37 heap_PushA [] [h, x] K w = heap_PushF h x K w by kernel_rfl).mpr hF)

/-- container.heap.Pop -/
def heap_PopF (h : Value) (K : Value → World → Prop) (w : World) : Prop :=
  inv Try.prog h "Len" [] ([Ty1.one (Cell.int IntKind.i64)]) w <|
  fun (x_1 : Int) (w_2 : World) =>
  inv Try.prog h "Swap" ([Value.int IntKind.i64 0, Value.int IntKind.i64 (IntKind.wrap IntKind.i64 (x_1 - 1))]) [] w_2 <|
  fun (x_3 : PUnit) (w_4 : World) =>
  call Try.prog 42 ([h, Value.int IntKind.i64 0, Value.int IntKind.i64 (IntKind.wrap IntKind.i64 (x_1 - 1))]) ([Ty1.one Cell.bool]) w_4 <|
  fun (b_5 : Bool) (w_6 : World) =>
  inv Try.prog h "Pop" [] ([Ty1.one Cell.any]) w_6 <|
  fun (v_7 : Value) (w_8 : World) =>
  K v_7 w_8
def heap_PopA : List Ann := [.n, .n, .n, .n, .n]
theorem heap_Pop_of {h : Value} {w : World} {K : Value → World → Prop} (hF : heap_PopF h K w) : call Try.prog 38 [h] [.one .any] w K :=
  calls_of_fnPt (an := heap_PopA) (ts := [.one .any]) (args := [h]) Try.func38 (by kernel_rfl) ((show fnPt (std Try.prog) Try.prog Try.f38 heap_PopA [.one .any] [h] K w = heap_PopF h K w by kernel_rfl).mpr hF)

/-- container.heap.up -/
def heap_upF (h : Value) (j : Int) (K : Unit → World → Prop) (w : World) : Prop :=
  loop (Int) (fun (X_1 : Int → World → Prop) (x_2 : Int) (w_3 : World) =>
    join (Bool) (fun (X_4 : Bool → World → Prop) =>
      cond (IntKind.wrap IntKind.i64 (Int.tdiv (IntKind.wrap IntKind.i64 (x_2 - 1)) 2) == x_2)
        (X_4 true w_3)
        (inv Try.prog h "Less" ([Value.int IntKind.i64 x_2, Value.int IntKind.i64 (IntKind.wrap IntKind.i64 (Int.tdiv (IntKind.wrap IntKind.i64 (x_2 - 1)) 2))]) ([Ty1.one Cell.bool]) w_3 <|
        fun (b_5 : Bool) (w_6 : World) =>
        X_4 (!b_5) w_6)) <|
    fun (b_7 : Bool) (w_8 : World) =>
    cond b_7
      (K () w_8)
      (inv Try.prog h "Swap" ([Value.int IntKind.i64 (IntKind.wrap IntKind.i64 (Int.tdiv (IntKind.wrap IntKind.i64 (x_2 - 1)) 2)), Value.int IntKind.i64 x_2]) [] w_8 <|
      fun (x_9 : PUnit) (w_10 : World) =>
      X_1 (IntKind.wrap IntKind.i64 (Int.tdiv (IntKind.wrap IntKind.i64 (x_2 - 1)) 2)) w_10)) j w
def heap_upA : List Ann := [.l [(1, .one (.int .i64))], .n, .n, .j [(17, .one .bool)], .n]
theorem heap_up_of {h : Value} {j : Int} {w : World} {K : Unit → World → Prop} (hF : heap_upF h j K w) : call Try.prog 41 [h, .int .i64 j] [] w K :=
  calls_of_fnPt (an := heap_upA) (ts := []) (args := [h, .int .i64 j]) Try.func41 (by kernel_rfl) ((show fnPt (std Try.prog) Try.prog Try.f41 heap_upA [] [h, .int .i64 j] K w = heap_upF h j K w by kernel_rfl).mpr hF)

/-- container.heap.down -/
def heap_downF (h : Value) (i0 : Int) (n : Int) (K : Bool → World → Prop) (w : World) : Prop :=
  join (Int) (fun (X_1 : Int → World → Prop) =>
    loop (Int) (fun (X_2 : Int → World → Prop) (x_3 : Int) (w_4 : World) =>
      join (Bool) (fun (X_5 : Bool → World → Prop) =>
        cond (decide (IntKind.wrap IntKind.i64 (IntKind.wrap IntKind.i64 (2 * x_3) + 1) ≥ n))
          (X_5 true w_4)
          (X_5 (decide (IntKind.wrap IntKind.i64 (IntKind.wrap IntKind.i64 (2 * x_3) + 1) < 0)) w_4)) <|
      fun (b_6 : Bool) (w_7 : World) =>
      cond b_6
        (X_1 x_3 w_7)
        (join (Int) (fun (X_8 : Int → World → Prop) =>
          join (Bool) (fun (X_9 : Bool → World → Prop) =>
            cond (decide (IntKind.wrap IntKind.i64 (IntKind.wrap IntKind.i64 (IntKind.wrap IntKind.i64 (2 * x_3) + 1) + 1) < n))
              (inv Try.prog h "Less" ([Value.int IntKind.i64 (IntKind.wrap IntKind.i64 (IntKind.wrap IntKind.i64 (IntKind.wrap IntKind.i64 (2 * x_3) + 1) + 1)), Value.int IntKind.i64 (IntKind.wrap IntKind.i64 (IntKind.wrap IntKind.i64 (2 * x_3) + 1))]) ([Ty1.one Cell.bool]) w_7 <|
              fun (b_10 : Bool) (w_11 : World) =>
              X_9 b_10 w_11)
              (X_9 false w_7)) <|
          fun (b_12 : Bool) (w_13 : World) =>
          cond b_12
            (X_8 (IntKind.wrap IntKind.i64 (IntKind.wrap IntKind.i64 (IntKind.wrap IntKind.i64 (2 * x_3) + 1) + 1)) w_13)
            (X_8 (IntKind.wrap IntKind.i64 (IntKind.wrap IntKind.i64 (2 * x_3) + 1)) w_13)) <|
        fun (x_14 : Int) (w_15 : World) =>
        inv Try.prog h "Less" ([Value.int IntKind.i64 x_14, Value.int IntKind.i64 x_3]) ([Ty1.one Cell.bool]) w_15 <|
        fun (b_16 : Bool) (w_17 : World) =>
        cond (!b_16)
          (X_1 x_3 w_17)
          (inv Try.prog h "Swap" ([Value.int IntKind.i64 x_3, Value.int IntKind.i64 x_14]) [] w_17 <|
          fun (x_18 : PUnit) (w_19 : World) =>
          X_2 x_14 w_19))) i0 w) <|
  fun (x_20 : Int) (w_21 : World) =>
  K (decide (x_20 > i0)) w_21
def heap_downA : List Ann := [.n, .n, .j [(7, .one (.int .i64))], .l [(7, .one (.int .i64))], .n, .n, .j [(21, .one .bool)], .n, .j [(9, .one (.int .i64))], .n, .j [(33, .one .bool)], .n, .n, .n, .n]
theorem heap_down_of {h : Value} {i0 : Int} {n : Int} {w : World} {K : Bool → World → Prop} (hF : heap_downF h i0 n K w) : call Try.prog 42 [h, .int .i64 i0, .int .i64 n] [.one .bool] w K :=
  calls_of_fnPt (an := heap_downA) (ts := [.one .bool]) (args := [h, .int .i64 i0, .int .i64 n]) Try.func42 (by kernel_rfl) ((show fnPt (std Try.prog) Try.prog Try.f42 heap_downA [.one .bool] [h, .int .i64 i0, .int .i64 n] K w = heap_downF h i0 n K w by kernel_rfl).mpr hF)

/-- cashbook.pool.row.Len -/
def pool_row_LenF (r : Sl) (K : Int → World → Prop) (w : World) : Prop :=
  K (↑r.len : Int) w
def pool_row_LenA : List Ann := [.n, .n]
theorem pool_row_Len_of {r : Sl} {w : World} {K : Int → World → Prop} (hF : pool_row_LenF r K w) : call Try.prog 77 [.slice r.a r.len r.cap] [.one (.int .i64)] w K :=
  calls_of_fnPt (an := pool_row_LenA) (ts := [.one (.int .i64)]) (args := [.slice r.a r.len r.cap]) Try.func77 (by kernel_rfl) ((show fnPt (std Try.prog) Try.prog Try.f77 pool_row_LenA [.one (.int .i64)] [.slice r.a r.len r.cap] K w = pool_row_LenF r K w by kernel_rfl).mpr hF)

/-- cashbook.pool.row.Less -/
def pool_row_LessF (r : Sl) (i : Int) (k : Int) (K : Bool → World → Prop) (w : World) : Prop :=
  idx r i 1 <|
  fun (a_1 : Addr) =>
  ld (Cell.int IntKind.u32) a_1 (World.drew w) <|
  fun (x_2 : Int) =>
  idx r k 1 <|
  fun (a_3 : Addr) =>
  ld (Cell.int IntKind.u32) a_3 (World.drew w) <|
  fun (x_4 : Int) =>
  K (decide (x_2 < x_4)) (World.drew w)
def pool_row_LessA : List Ann := [.n, .n, .o [[0, 1, 2, 3, 4, 5, 6, 7, 8, 9]]]
theorem pool_row_Less_of {r : Sl} {i : Int} {k : Int} {w : World} {K : Bool → World → Prop} (hF : pool_row_LessF r i k K w) : call Try.prog 78 [.slice r.a r.len r.cap, .int .i64 i, .int .i64 k] [.one .bool] w K :=
  calls_of_fnPt (an := pool_row_LessA) (ts := [.one .bool]) (args := [.slice r.a r.len r.cap, .int .i64 i, .int .i64 k]) Try.func78 (by kernel_rfl) ((show fnPt (std Try.prog) Try.prog Try.f78 pool_row_LessA [.one .bool] [.slice r.a r.len r.cap, .int .i64 i, .int .i64 k] K w = pool_row_LessF r i k K w by kernel_rfl).mpr hF)

/-- cashbook.pool.row.Swap -/
def pool_row_SwapF (r : Sl) (i : Int) (k : Int) (K : Unit → World → Prop) (w : World) : Prop :=
  idx r k 1 <|
  fun (a_1 : Addr) =>
  ld (Cell.int IntKind.u32) a_1 (World.drew w) <|
  fun (x_2 : Int) =>
  idx r i 1 <|
  fun (a_3 : Addr) =>
  ld (Cell.int IntKind.u32) a_3 (World.drew w) <|
  fun (x_4 : Int) =>
  idx r i 1 <|
  fun (a_5 : Addr) =>
  st a_5 ([Value.int IntKind.u32 x_2]) (World.drew w) <|
  fun (w_6 : World) =>
  idx r k 1 <|
  fun (a_7 : Addr) =>
  st a_7 ([Value.int IntKind.u32 x_4]) w_6 <|
  fun (w_8 : World) =>
  K () w_8
def pool_row_SwapA : List Ann := [.o [[0, 1, 2, 3, 4, 5, 6, 7, 8, 9, 10, 11, 12, 13, 14, 15]]]
theorem pool_row_Swap_of {r : Sl} {i : Int} {k : Int} {w : World} {K : Unit → World → Prop} (hF : pool_row_SwapF r i k K w) : call Try.prog 79 [.slice r.a r.len r.cap, .int .i64 i, .int .i64 k] [] w K :=
  calls_of_fnPt (an := pool_row_SwapA) (ts := []) (args := [.slice r.a r.len r.cap, .int .i64 i, .int .i64 k]) Try.func79 (by kernel_rfl) ((show fnPt (std Try.prog) Try.prog Try.f79 pool_row_SwapA [] [.slice r.a r.len r.cap, .int .i64 i, .int .i64 k] K w = pool_row_SwapF r i k K w by kernel_rfl).mpr hF)

/-- cashbook.pool.row.Pop -/
def pool_row_PopF (r : Option Addr) (K : Value → World → Prop) (w : World) : Prop :=
  nn r <|
  fun (a_1 : Addr) =>
  ld Cell.slice a_1 (World.drew w) <|
  fun (s_2 : Sl) =>
  nn r <|
  fun (a_3 : Addr) =>
  ld Cell.slice a_3 (World.drew w) <|
  fun (s_4 : Sl) =>
  idx s_2 (IntKind.wrap IntKind.i64 ((↑s_4.len : Int) - 1)) 1 <|
  fun (a_5 : Addr) =>
  ld (Cell.int IntKind.u32) a_5 (World.drew w) <|
  fun (x_6 : Int) =>
  nn r <|
  fun (a_7 : Addr) =>
  ld Cell.slice a_7 (World.drew (World.drew w)) <|
  fun (s_8 : Sl) =>
  nn r <|
  fun (a_9 : Addr) =>
  ld Cell.slice a_9 (World.drew (World.drew w)) <|
  fun (s_10 : Sl) =>
  slc s_8 none (some (IntKind.wrap IntKind.i64 ((↑s_10.len : Int) - 1))) none 1 <|
  fun (s_11 : Sl) =>
  nn r <|
  fun (a_12 : Addr) =>
  st a_12 ([Value.slice s_11.a s_11.len s_11.cap]) (World.drew (World.drew w)) <|
  fun (w_13 : World) =>
  K (Value.iface 31 (Value.int IntKind.u32 x_6)) w_13
def pool_row_PopA : List Ann := [.n, .n, .o [[0, 1, 2, 3, 4, 5, 6, 7, 8, 9, 10]], .n, .o [[0, 1, 2, 3, 4, 5, 6, 7, 8, 9, 10, 11]], .n]
theorem pool_row_Pop_of {r : Option Addr} {w : World} {K : Value → World → Prop} (hF : pool_row_PopF r K w) : call Try.prog 80 [.pointer r] [.one .any] w K :=
  calls_of_fnPt (an := pool_row_PopA) (ts := [.one .any]) (args := [.pointer r]) Try.func80 (by kernel_rfl) ((show fnPt (std Try.prog) Try.prog Try.f80 pool_row_PopA [.one .any] [.pointer r] K w = pool_row_PopF r K w by kernel_rfl).mpr hF)

/-- cashbook.pool.row.Push -/
def pool_row_PushF (r : Option Addr) (x : Value) (K : Unit → World → Prop) (w : World) : Prop :=
  runQ [Ty1.one (Cell.int IntKind.u32), Ty1.one Cell.bool] (fun (w_1 : Go.World) => (Instr.typeAssert x 20 31 true).run Try.prog w_1) w <|
  fun (t_2 : Int × Bool) =>
  cond t_2.snd
    (nn r <|
    fun (a_3 : Addr) =>
    ld Cell.slice a_3 w <|
    fun (s_4 : Sl) =>
    new (Obj.cells #[Value.int IntKind.u32 t_2.fst] 31) w <|
    fun (r_5 : Nat) (w_6 : World) =>
    run [Ty1.one Cell.slice] ((Builtin.append_ (#[67, 67]) 67 (#[Value.slice s_4.a s_4.len s_4.cap, Value.slice (some { block := r_5, off := 0 }) 1 1])).run Try.prog w_6) <|
    fun (s_7 : Sl) (w_8 : World) =>
    nn r <|
    fun (a_9 : Addr) =>
    st a_9 ([Value.slice s_7.a s_7.len s_7.cap]) w_8 <|
    fun (w_10 : World) =>
    K () w_10)
    (K () w)
def pool_row_PushA : List Ann := [.n, .n]
theorem pool_row_Push_of {r : Option Addr} {x : Value} {w : World} {K : Unit → World → Prop} (hF : pool_row_PushF r x K w) : call Try.prog 81 [.pointer r, x] [] w K :=
  calls_of_fnPt (an := pool_row_PushA) (ts := []) (args := [.pointer r, x]) Try.func81 (by kernel_rfl) ((show fnPt (std Try.prog) Try.prog Try.f81 pool_row_PushA [] [.pointer r, x] K w = pool_row_PushF r x K w by kernel_rfl).mpr hF)

end Go.Proofs.Ytmmldfipakcmaaa
