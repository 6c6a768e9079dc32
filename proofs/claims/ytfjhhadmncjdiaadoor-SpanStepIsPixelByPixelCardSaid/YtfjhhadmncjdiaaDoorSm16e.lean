/- Chapter 16: the statement of steps. Printed by a program (gen/Gen2.lean) but for the loops' proofs; what each function does is told by the evaluator, and the kernel checks it. No condition. -/
import Derived.Test.YtfjhhadmncjdiaaDoorRwT
import Derived.KernelRfl
import Derived.Shelf.Spec.TrailingZeros
import Derived.Laws.Bits64b
namespace Go.Proofs.YtfjhhadmncjdiaaDoor
set_option maxRecDepth 100000
open Go.RowKit

/-! compositor/compositorlaw16.SpanStepIsPixelByPixel -/
def A_law16_SpanStepIsPixelByPixel : List PS := [.c (.b), .c (.i .i64), .c (.i .i64), .agg [.i .i64, .l [.i .i64, .i .i64, .i .i64, .i .i64, .i .i64]], .c (.l [.i .i64, .i .i64, .i .i64, .i .i64, .i .i64]), .c (.l [.i .i64, .i .i64, .i .i64, .i .i64, .i .i64]), .c (.l [.i .i64]), .c (.i .i64), .c (.i .i64)]
def R_law16_SpanStepIsPixelByPixel : RS := .one (.c (.b))
def head_law16_SpanStepIsPixelByPixel_8 : Shp := ⟨[.p (.c (.h (.b))), .any, .any, .any, .p (.c (.h (.l [.i .i64, .i .i64, .i .i64, .i .i64, .i .i64]))), .p (.c (.h (.l [.i .i64, .i .i64, .i .i64, .i .i64, .i .i64]))), .p (.c (.h (.l [.i .i64]))), .any, .any, .any, .any, .any, .any, .any, .any, .any, .any, .any, .any, .p (.c (.h (.i .u16))), .p (.c (.h (.i .i64))), .p (.c (.h (.i .i64))), .p (.c (.h (.i .i64))), .p (.c (.h (.l [.i .u16, .i .u16, .i .u16, .i .u16, .i .u16]))), .p (.c (.ar 0 [.i .u16, .i .u16, .i .u16, .i .u16, .i .u16, .i .u16] 51)), .p (.c (.ar 1 [.i .u16, .i .u16, .i .u16, .i .u16, .i .u16] 37)), .p (.c (.h (.i .i64))), .any, .any, .any, .any, .any, .any, .any, .any, .any, .any, .any, .any, .any, .any, .any, .any, .any, .any, .any, .any, .any, .any, .any, .any, .any, .any, .any, .any, .any, .any, .any, .any, .any, .any, .any, .any, .any, .any, .any, .any, .any, .any, .any, .any, .any, .any, .any, .any, .any, .any, .any, .any, .any, .any, .any, .any, .any, .any, .any, .any, .any, .any, .any, .any, .any, .any, .any, .any, .any, .any, .any, .any, .any, .any, .any, .any, .any, .any, .any, .any, .any, .any, .any, .any, .any, .any, .any, .any, .any, .any, .any, .any, .any, .any, .any, .any, .any, .any, .any, .any, .any, .any, .any, .any, .any, .any, .any, .any, .any, .any, .any, .any, .any, .any, .any, .any, .any, .any, .any, .any, .any, .any, .any, .any, .any, .any, .any, .any, .any, .any, .any, .any, .any, .any, .any, .any, .any, .any, .any, .any, .any, .any, .any, .any, .any, .any, .any, .any, .any, .any, .any, .any, .any, .any, .any, .any, .any, .any, .any, .any, .any, .any], [(0, ⟨[], 51, true, some [.i .u16, .i .u16, .i .u16, .i .u16, .i .u16, .i .u16]⟩), (1, ⟨[], 37, true, some [.i .u16, .i .u16, .i .u16, .i .u16, .i .u16]⟩)]⟩
def outs_law16_SpanStepIsPixelByPixel_8 : List (Xt × Shp × Nat) := [(.exit 0, ⟨[.p (.c (.h (.b))), .any, .any, .any, .any, .any, .any, .any, .any, .any, .any, .any, .any, .any, .any, .any, .any, .any, .any, .p (.c (.h (.i .u16))), .p (.c (.h (.i .i64))), .p (.c (.h (.i .i64))), .p (.c (.h (.i .i64))), .p (.c (.h (.l [.i .u16, .i .u16, .i .u16, .i .u16, .i .u16]))), .p (.c (.ar 0 [.i .u16, .i .u16, .i .u16, .i .u16, .i .u16, .i .u16] 51)), .p (.c (.ar 1 [.i .u16, .i .u16, .i .u16, .i .u16, .i .u16] 37)), .any, .any, .any, .any, .any, .any, .any, .any, .any, .any, .any, .any, .any, .any, .any, .any, .any, .any, .any, .any, .any, .any, .any, .any, .any, .any, .any, .any, .any, .any, .any, .any, .any, .any, .any, .any, .any, .any, .any, .any, .any, .any, .any, .any, .any, .any, .any, .any, .any, .any, .any, .any, .any, .any, .any, .any, .any, .any, .any, .any, .any, .any, .any, .any, .any, .any, .any, .any, .any, .any, .any, .any, .any, .any, .any, .any, .any, .any, .any, .any, .any, .any, .any, .any, .any, .any, .any, .any, .any, .any, .any, .any, .any, .any, .any, .any, .any, .any, .any, .any, .any, .any, .any, .any, .any, .any, .any, .any, .any, .any, .any, .any, .any, .any, .any, .any, .any, .any, .any, .any, .any, .any, .any, .any, .any, .any, .any, .any, .any, .any, .any, .any, .any, .any, .any, .any, .any, .any, .any, .any, .any, .any, .any, .any, .any, .any, .any, .any, .any, .any, .any, .any, .any, .any, .any, .any, .any, .any, .any, .any, .any, .any, .any], [(0, ⟨[], 51, true, some [.i .u16, .i .u16, .i .u16, .i .u16, .i .u16, .i .u16]⟩), (1, ⟨[], 37, true, some [.i .u16, .i .u16, .i .u16, .i .u16, .i .u16]⟩)]⟩, 2)]
noncomputable def OUT_law16_SpanStepIsPixelByPixel_8 (p0 : Bool) (p1 : Value) (p2 : Value) (p3 : Value) (p4 : Int) (p5 : Int) (p6 : Int) (p7 : Int) (p8 : Value) (p9 : Int) (p10 : Value) (p11 : Value) : List Value :=
    bif (decide (p9 < p7)) then
      (bif (decide (p9 < (LN p1))) then
        (bif (INB p1 p9) then
          (bif (decide (p9 < (LN p2))) then
            (bif (INB p2 p9) then
              (let x0 := F_gen_At p3 p9
              let x1 := F_gen_Accum (num (CV (IX p1 p9) 0)) (num (CV (IX p1 p9) 1)) (num (CV (IX p1 p9) 2)) (num (CV (IX p1 p9) 3)) (num (CV (IX p1 p9) 4)) x0 p4
              bif (RO 12 (SN p10 [.int .u16 x1.1, .int .u16 x1.2.1, .int .u16 x1.2.2.1, .int .u16 x1.2.2.2.1, .int .u16 x1.2.2.2.2.1, .int .u16 x1.2.2.2.2.2])) then
                (let x2 := F_gen_Back (num (CV (IX p2 p9) 0)) (num (CV (IX p2 p9) 1)) (num (CV (IX p2 p9) 2)) (num (CV (IX p2 p9) 3)) (num (CV (IX p2 p9) 4)) p4
                bif (RO 10 (SN p11 [.int .u16 x2.1, .int .u16 x2.2.1, .int .u16 x2.2.2.1, .int .u16 x2.2.2.2.1, .int .u16 x2.2.2.2.2])) then
                  ([.int .i64 (-1), .bool p0, p1, p2, p3, .int .u16 p4, .int .i64 p5, .int .i64 p6, .int .i64 p7, p8, .int .i64 (IntKind.i64.wrap (p9 + 1)), (SN p10 [.int .u16 x1.1, .int .u16 x1.2.1, .int .u16 x1.2.2.1, .int .u16 x1.2.2.2.1, .int .u16 x1.2.2.2.2.1, .int .u16 x1.2.2.2.2.2]), (SN p11 [.int .u16 x2.1, .int .u16 x2.2.1, .int .u16 x2.2.2.1, .int .u16 x2.2.2.2.1, .int .u16 x2.2.2.2.2])])
                else
                  ([]))
              else
                ([]))
            else
              ([]))
          else
            (let x3 := F_gen_At p3 p9
            let x4 := F_gen_Accum (num (CV (IX p1 p9) 0)) (num (CV (IX p1 p9) 1)) (num (CV (IX p1 p9) 2)) (num (CV (IX p1 p9) 3)) (num (CV (IX p1 p9) 4)) x3 p4
            bif (RO 12 (SN p10 [.int .u16 x4.1, .int .u16 x4.2.1, .int .u16 x4.2.2.1, .int .u16 x4.2.2.2.1, .int .u16 x4.2.2.2.2.1, .int .u16 x4.2.2.2.2.2])) then
              (let x5 := F_gen_Back 0 0 0 0 0 p4
              bif (RO 10 (SN p11 [.int .u16 x5.1, .int .u16 x5.2.1, .int .u16 x5.2.2.1, .int .u16 x5.2.2.2.1, .int .u16 x5.2.2.2.2])) then
                ([.int .i64 (-1), .bool p0, p1, p2, p3, .int .u16 p4, .int .i64 p5, .int .i64 p6, .int .i64 p7, p8, .int .i64 (IntKind.i64.wrap (p9 + 1)), (SN p10 [.int .u16 x4.1, .int .u16 x4.2.1, .int .u16 x4.2.2.1, .int .u16 x4.2.2.2.1, .int .u16 x4.2.2.2.2.1, .int .u16 x4.2.2.2.2.2]), (SN p11 [.int .u16 x5.1, .int .u16 x5.2.1, .int .u16 x5.2.2.1, .int .u16 x5.2.2.2.1, .int .u16 x5.2.2.2.2])])
              else
                ([]))
            else
              ([])))
        else
          ([]))
      else
        (bif (decide (p9 < (LN p2))) then
          (bif (INB p2 p9) then
            (let x6 := F_gen_At p3 p9
            let x7 := F_gen_Accum 0 0 0 0 0 x6 p4
            bif (RO 12 (SN p10 [.int .u16 x7.1, .int .u16 x7.2.1, .int .u16 x7.2.2.1, .int .u16 x7.2.2.2.1, .int .u16 x7.2.2.2.2.1, .int .u16 x7.2.2.2.2.2])) then
              (let x8 := F_gen_Back (num (CV (IX p2 p9) 0)) (num (CV (IX p2 p9) 1)) (num (CV (IX p2 p9) 2)) (num (CV (IX p2 p9) 3)) (num (CV (IX p2 p9) 4)) p4
              bif (RO 10 (SN p11 [.int .u16 x8.1, .int .u16 x8.2.1, .int .u16 x8.2.2.1, .int .u16 x8.2.2.2.1, .int .u16 x8.2.2.2.2])) then
                ([.int .i64 (-1), .bool p0, p1, p2, p3, .int .u16 p4, .int .i64 p5, .int .i64 p6, .int .i64 p7, p8, .int .i64 (IntKind.i64.wrap (p9 + 1)), (SN p10 [.int .u16 x7.1, .int .u16 x7.2.1, .int .u16 x7.2.2.1, .int .u16 x7.2.2.2.1, .int .u16 x7.2.2.2.2.1, .int .u16 x7.2.2.2.2.2]), (SN p11 [.int .u16 x8.1, .int .u16 x8.2.1, .int .u16 x8.2.2.1, .int .u16 x8.2.2.2.1, .int .u16 x8.2.2.2.2])])
              else
                ([]))
            else
              ([]))
          else
            ([]))
        else
          (let x9 := F_gen_At p3 p9
          let x10 := F_gen_Accum 0 0 0 0 0 x9 p4
          bif (RO 12 (SN p10 [.int .u16 x10.1, .int .u16 x10.2.1, .int .u16 x10.2.2.1, .int .u16 x10.2.2.2.1, .int .u16 x10.2.2.2.2.1, .int .u16 x10.2.2.2.2.2])) then
            (let x11 := F_gen_Back 0 0 0 0 0 p4
            bif (RO 10 (SN p11 [.int .u16 x11.1, .int .u16 x11.2.1, .int .u16 x11.2.2.1, .int .u16 x11.2.2.2.1, .int .u16 x11.2.2.2.2])) then
              ([.int .i64 (-1), .bool p0, p1, p2, p3, .int .u16 p4, .int .i64 p5, .int .i64 p6, .int .i64 p7, p8, .int .i64 (IntKind.i64.wrap (p9 + 1)), (SN p10 [.int .u16 x10.1, .int .u16 x10.2.1, .int .u16 x10.2.2.1, .int .u16 x10.2.2.2.1, .int .u16 x10.2.2.2.2.1, .int .u16 x10.2.2.2.2.2]), (SN p11 [.int .u16 x11.1, .int .u16 x11.2.1, .int .u16 x11.2.2.1, .int .u16 x11.2.2.2.1, .int .u16 x11.2.2.2.2])])
            else
              ([]))
          else
            ([]))))
    else
      ([.int .i64 0, .bool p0, .int .u16 p4, .int .i64 p5, .int .i64 p6, .int .i64 p7, p8, p10, p11])
noncomputable def OL_law16_SpanStepIsPixelByPixel_8 (xs : List Value) : List Value := OUT_law16_SpanStepIsPixelByPixel_8 (tru (xs.getD 0 undef)) (xs.getD 1 undef) (xs.getD 2 undef) (xs.getD 3 undef) (num (xs.getD 4 undef)) (num (xs.getD 5 undef)) (num (xs.getD 6 undef)) (num (xs.getD 7 undef)) (xs.getD 8 undef) (num (xs.getD 9 undef)) (xs.getD 10 undef) (xs.getD 11 undef)
noncomputable def LF_law16_SpanStepIsPixelByPixel_8 : List Value → List Value := LFof OL_law16_SpanStepIsPixelByPixel_8
def pre_law16_SpanStepIsPixelByPixel_8 (xs : List Value) : Bool := decide (0 ≤ num (xs.getD 9 undef)) && decide (LN (xs.getD 10 undef) = num (xs.getD 9 undef)) && decide (LN (xs.getD 11 undef) = num (xs.getD 9 undef)) && decide (num (xs.getD 7 undef) ≤ 1000)
noncomputable def LC_law16_SpanStepIsPixelByPixel_8 : LoopC := ⟨6, 8, LF_law16_SpanStepIsPixelByPixel_8, pre_law16_SpanStepIsPixelByPixel_8, 2, head_law16_SpanStepIsPixelByPixel_8, outs_law16_SpanStepIsPixelByPixel_8⟩
theorem LF_law16_SpanStepIsPixelByPixel_8_go (p0 : Bool) (p1 : Value) (p2 : Value) (p3 : Value) (p4 : Int) (p5 : Int) (p6 : Int) (p7 : Int) (p8 : Value) (p9 : Int) (p10 : Value) (p11 : Value) : LF_law16_SpanStepIsPixelByPixel_8 [.bool p0, p1, p2, p3, .int .u16 p4, .int .i64 p5, .int .i64 p6, .int .i64 p7, p8, .int .i64 p9, p10, p11] = goOn LF_law16_SpanStepIsPixelByPixel_8 (OUT_law16_SpanStepIsPixelByPixel_8 p0 p1 p2 p3 p4 p5 p6 p7 p8 p9 p10 p11) := LFof_eq _ _
theorem okBL_law16_SpanStepIsPixelByPixel_8 (p0 : Bool) (p1 : Value) (p2 : Value) (p3 : Value) (p4 : Int) (p5 : Int) (p6 : Int) (p7 : Int) (p8 : Value) (p9 : Int) (p10 : Value) (p11 : Value) : (evL ⟨[C_span_Result, C_gen_Pixels, C_span_Step], []⟩ Tryd.prog [S_gen_Mod, S_gen_Max, S_gen_Back, S_gen_Accum, S_group_Step, S_group_Result, S_gen_At, S_law16_awake] 1000 LC_law16_SpanStepIsPixelByPixel_8 [.bool p0, p1, p2, p3, .int .u16 p4, .int .i64 p5, .int .i64 p6, .int .i64 p7, p8, .int .i64 p9, p10, p11]).ok =
    bif (decide (p9 < p7)) then
      (bif (decide (p9 < (LN p1))) then
        (bif (INB p1 p9) then
          (bif (decide (p9 < (LN p2))) then
            (bif (INB p2 p9) then
              (let x0 := F_gen_At p3 p9
              let x1 := F_gen_Accum (num (CV (IX p1 p9) 0)) (num (CV (IX p1 p9) 1)) (num (CV (IX p1 p9) 2)) (num (CV (IX p1 p9) 3)) (num (CV (IX p1 p9) 4)) x0 p4
              bif (RO 12 (SN p10 [.int .u16 x1.1, .int .u16 x1.2.1, .int .u16 x1.2.2.1, .int .u16 x1.2.2.2.1, .int .u16 x1.2.2.2.2.1, .int .u16 x1.2.2.2.2.2])) then
                (let x2 := F_gen_Back (num (CV (IX p2 p9) 0)) (num (CV (IX p2 p9) 1)) (num (CV (IX p2 p9) 2)) (num (CV (IX p2 p9) 3)) (num (CV (IX p2 p9) 4)) p4
                bif (RO 10 (SN p11 [.int .u16 x2.1, .int .u16 x2.2.1, .int .u16 x2.2.2.1, .int .u16 x2.2.2.2.1, .int .u16 x2.2.2.2.2])) then
                  (true)
                else
                  (false))
              else
                (false))
            else
              (false))
          else
            (let x3 := F_gen_At p3 p9
            let x4 := F_gen_Accum (num (CV (IX p1 p9) 0)) (num (CV (IX p1 p9) 1)) (num (CV (IX p1 p9) 2)) (num (CV (IX p1 p9) 3)) (num (CV (IX p1 p9) 4)) x3 p4
            bif (RO 12 (SN p10 [.int .u16 x4.1, .int .u16 x4.2.1, .int .u16 x4.2.2.1, .int .u16 x4.2.2.2.1, .int .u16 x4.2.2.2.2.1, .int .u16 x4.2.2.2.2.2])) then
              (let x5 := F_gen_Back 0 0 0 0 0 p4
              bif (RO 10 (SN p11 [.int .u16 x5.1, .int .u16 x5.2.1, .int .u16 x5.2.2.1, .int .u16 x5.2.2.2.1, .int .u16 x5.2.2.2.2])) then
                (true)
              else
                (false))
            else
              (false)))
        else
          (false))
      else
        (bif (decide (p9 < (LN p2))) then
          (bif (INB p2 p9) then
            (let x6 := F_gen_At p3 p9
            let x7 := F_gen_Accum 0 0 0 0 0 x6 p4
            bif (RO 12 (SN p10 [.int .u16 x7.1, .int .u16 x7.2.1, .int .u16 x7.2.2.1, .int .u16 x7.2.2.2.1, .int .u16 x7.2.2.2.2.1, .int .u16 x7.2.2.2.2.2])) then
              (let x8 := F_gen_Back (num (CV (IX p2 p9) 0)) (num (CV (IX p2 p9) 1)) (num (CV (IX p2 p9) 2)) (num (CV (IX p2 p9) 3)) (num (CV (IX p2 p9) 4)) p4
              bif (RO 10 (SN p11 [.int .u16 x8.1, .int .u16 x8.2.1, .int .u16 x8.2.2.1, .int .u16 x8.2.2.2.1, .int .u16 x8.2.2.2.2])) then
                (true)
              else
                (false))
            else
              (false))
          else
            (false))
        else
          (let x9 := F_gen_At p3 p9
          let x10 := F_gen_Accum 0 0 0 0 0 x9 p4
          bif (RO 12 (SN p10 [.int .u16 x10.1, .int .u16 x10.2.1, .int .u16 x10.2.2.1, .int .u16 x10.2.2.2.1, .int .u16 x10.2.2.2.2.1, .int .u16 x10.2.2.2.2.2])) then
            (let x11 := F_gen_Back 0 0 0 0 0 p4
            bif (RO 10 (SN p11 [.int .u16 x11.1, .int .u16 x11.2.1, .int .u16 x11.2.2.1, .int .u16 x11.2.2.2.1, .int .u16 x11.2.2.2.2])) then
              (true)
            else
              (false))
          else
            (false))))
    else
      (true) := (okR_eq _).trans (by kernel_rfl)
theorem step_law16_SpanStepIsPixelByPixel_8 (p0 : Bool) (p1 : Value) (p2 : Value) (p3 : Value) (p4 : Int) (p5 : Int) (p6 : Int) (p7 : Int) (p8 : Value) (p9 : Int) (p10 : Value) (p11 : Value) : (evL ⟨[C_span_Result, C_gen_Pixels, C_span_Step], []⟩ Tryd.prog [S_gen_Mod, S_gen_Max, S_gen_Back, S_gen_Accum, S_group_Step, S_group_Result, S_gen_At, S_law16_awake] 1000 LC_law16_SpanStepIsPixelByPixel_8 [.bool p0, p1, p2, p3, .int .u16 p4, .int .i64 p5, .int .i64 p6, .int .i64 p7, p8, .int .i64 p9, p10, p11]).outL = OUT_law16_SpanStepIsPixelByPixel_8 p0 p1 p2 p3 p4 p5 p6 p7 p8 p9 p10 p11 := (fold_eq (fun l => l) _).trans (by kernel_rfl)
theorem one_law16_SpanStepIsPixelByPixel_8 : (loopsBy Tryd.prog 6 8).length = 1 := by kernel_rfl
theorem env_law16_SpanStepIsPixelByPixel_8 : EnvOK Tryd.prog InvN ⟨[C_span_Result, C_gen_Pixels, C_span_Step], []⟩ ∧ AllOK Tryd.prog InvN [S_gen_Mod, S_gen_Max, S_gen_Back, S_gen_Accum, S_group_Step, S_group_Result, S_gen_At, S_law16_awake] := ⟨⟨(allC_cons ok_span_Result (allC_cons ok_gen_Pixels (allC_cons ok_span_Step allC_nil))), allL_nil⟩, (allOK_cons ok_gen_Mod.any (allOK_cons ok_gen_Max.any (allOK_cons ok_gen_Back (allOK_cons ok_gen_Accum (allOK_cons ok_group_Step (allOK_cons ok_group_Result (allOK_cons ok_gen_At (allOK_cons ok_law16_awake allOK_nil))))))))⟩
theorem lp_law16_SpanStepIsPixelByPixel_8 (meas : List Value → Nat) (h : ∀ p0 p1 p2 p3 p4 p5 p6 p7 p8 p9 p10 p11, inKind (.l [.i .i64, .i .i64, .i .i64, .i .i64, .i .i64]) p1 → inKind (.l [.i .i64, .i .i64, .i .i64, .i .i64, .i .i64]) p2 → inKind (.l [.i .i64]) p3 → IntKind.u16.min ≤ p4 → p4 ≤ IntKind.u16.max → IntKind.i64.min ≤ p5 → p5 ≤ IntKind.i64.max → IntKind.i64.min ≤ p6 → p6 ≤ IntKind.i64.max → IntKind.i64.min ≤ p7 → p7 ≤ IntKind.i64.max → inKind (.l [.i .u16, .i .u16, .i .u16, .i .u16, .i .u16]) p8 → IntKind.i64.min ≤ p9 → p9 ≤ IntKind.i64.max → inKind (.l [.i .u16, .i .u16, .i .u16, .i .u16, .i .u16, .i .u16]) p10 → inKind (.l [.i .u16, .i .u16, .i .u16, .i .u16, .i .u16]) p11 → pre_law16_SpanStepIsPixelByPixel_8 [.bool p0, p1, p2, p3, .int .u16 p4, .int .i64 p5, .int .i64 p6, .int .i64 p7, p8, .int .i64 p9, p10, p11] = true → (evL ⟨[C_span_Result, C_gen_Pixels, C_span_Step], []⟩ Tryd.prog [S_gen_Mod, S_gen_Max, S_gen_Back, S_gen_Accum, S_group_Step, S_group_Result, S_gen_At, S_law16_awake] 1000 LC_law16_SpanStepIsPixelByPixel_8 [.bool p0, p1, p2, p3, .int .u16 p4, .int .i64 p5, .int .i64 p6, .int .i64 p7, p8, .int .i64 p9, p10, p11]).ok = true ∧ okO pre_law16_SpanStepIsPixelByPixel_8 meas (meas [.bool p0, p1, p2, p3, .int .u16 p4, .int .i64 p5, .int .i64 p6, .int .i64 p7, p8, .int .i64 p9, p10, p11]) (OUT_law16_SpanStepIsPixelByPixel_8 p0 p1 p2 p3 p4 p5 p6 p7 p8 p9 p10 p11)) : LoopTrue Tryd.prog InvN LC_law16_SpanStepIsPixelByPixel_8 := loop_lf env_law16_SpanStepIsPixelByPixel_8 1000 LC_law16_SpanStepIsPixelByPixel_8 one_law16_SpanStepIsPixelByPixel_8 meas OL_law16_SpanStepIsPixelByPixel_8 rfl (fun xs hk hp => by
  have hk : KindsL [.b, .l [.i .i64, .i .i64, .i .i64, .i .i64, .i .i64], .l [.i .i64, .i .i64, .i .i64, .i .i64, .i .i64], .l [.i .i64], .i .u16, .i .i64, .i .i64, .i .i64, .l [.i .u16, .i .u16, .i .u16, .i .u16, .i .u16], .i .i64, .l [.i .u16, .i .u16, .i .u16, .i .u16, .i .u16, .i .u16], .l [.i .u16, .i .u16, .i .u16, .i .u16, .i .u16]] xs := hk
  obtain ⟨_, _, rfl, ⟨p0, rfl⟩, p1, _, rfl, p1k, p2, _, rfl, p2k, p3, _, rfl, p3k, _, _, rfl, ⟨p4, rfl, p4lo, p4hi⟩, _, _, rfl, ⟨p5, rfl, p5lo, p5hi⟩, _, _, rfl, ⟨p6, rfl, p6lo, p6hi⟩, _, _, rfl, ⟨p7, rfl, p7lo, p7hi⟩, p8, _, rfl, p8k, _, _, rfl, ⟨p9, rfl, p9lo, p9hi⟩, p10, _, rfl, p10k, p11, _, rfl, p11k, rfl⟩ := hk
  have h := h p0 p1 p2 p3 p4 p5 p6 p7 p8 p9 p10 p11 p1k p2k p3k p4lo p4hi p5lo p5hi p6lo p6hi p7lo p7hi p8k p9lo p9hi p10k p11k hp
  exact ⟨h.1, step_law16_SpanStepIsPixelByPixel_8 p0 p1 p2 p3 p4 p5 p6 p7 p8 p9 p10 p11, h.2⟩)
theorem ok_law16_SpanStepIsPixelByPixel_8 : LoopTrue Tryd.prog InvN LC_law16_SpanStepIsPixelByPixel_8 := lp_law16_SpanStepIsPixelByPixel_8 (fun xs => (num (xs.getD 7 undef) - num (xs.getD 9 undef)).toNat) (by
  intro p0 p1 p2 p3 p4 p5 p6 p7 p8 p9 p10 p11
  intro _ _ _ _ _ _ _ _ _ _ _ _ _ _ _ _ hp
  have hp : (decide (0 ≤ p9) && decide (LN p10 = p9) && decide (LN p11 = p9) && decide (p7 ≤ 1000)) = true := hp
  simp only [Bool.and_eq_true, decide_eq_true_eq] at hp
  obtain ⟨⟨⟨h1, h2⟩, h3⟩, h4⟩ := hp
  have nx : p9 < p7 → ∀ cs ds, okO pre_law16_SpanStepIsPixelByPixel_8 (fun xs => (num (xs.getD 7 undef) - num (xs.getD 9 undef)).toNat) (p7 - p9).toNat [.int .i64 (-1), .bool p0, p1, p2, p3, .int .u16 p4, .int .i64 p5, .int .i64 p6, .int .i64 p7, p8, .int .i64 (IntKind.i64.wrap (p9 + 1)), SN p10 cs, SN p11 ds] := fun h cs ds => okO_next (by
    show (decide (0 ≤ IntKind.i64.wrap (p9 + 1)) && decide (LN (SN p10 cs) = IntKind.i64.wrap (p9 + 1)) && decide (LN (SN p11 ds) = IntKind.i64.wrap (p9 + 1)) && decide (p7 ≤ 1000)) = true
    rw [i64_in (by omega) (by omega)]
    simp only [LN_SN, Bool.and_eq_true, decide_eq_true_eq]
    omega) (by
    show (p7 - IntKind.i64.wrap (p9 + 1)).toNat < (p7 - p9).toNat
    rw [i64_in (by omega) (by omega)]
    omega)
  have ro1 : p9 < p7 → ∀ cs, RO 12 (SN p10 cs) = true := fun h cs => RO_of (n := 1001) (by rw [LN_SN]; omega) (by decide) (by decide)
  have ro2 : p9 < p7 → ∀ cs, RO 10 (SN p11 cs) = true := fun h cs => RO_of (n := 1001) (by rw [LN_SN]; omega) (by decide) (by decide)
  rw [okBL_law16_SpanStepIsPixelByPixel_8]
  refine ⟨bif_ok (fun h => ?_) (fun _ => rfl), ?_⟩
  · have h : p9 < p7 := of_decide_eq_true h
    by_cases hq : p9 < LN p1
    · have q1 : INB p1 p9 = true := INB_of h1 hq
      by_cases hz : p9 < LN p2
      · have q2 : INB p2 p9 = true := INB_of h1 hz
        simp only [decide_eq_true hq, decide_eq_true hz, q1, q2, ro1 h, ro2 h, cond_true, Bool.cond_self]
        try (repeat' (first | rfl | refine bif_ok (fun _ => ?_) (fun _ => ?_)))
      · simp only [decide_eq_true hq, decide_eq_false hz, q1, ro1 h, ro2 h, cond_true, cond_false, Bool.cond_self]
        try (repeat' (first | rfl | refine bif_ok (fun _ => ?_) (fun _ => ?_)))
    · by_cases hz : p9 < LN p2
      · have q2 : INB p2 p9 = true := INB_of h1 hz
        simp only [decide_eq_false hq, decide_eq_true hz, q2, ro1 h, ro2 h, cond_true, cond_false, Bool.cond_self]
        try (repeat' (first | rfl | refine bif_ok (fun _ => ?_) (fun _ => ?_)))
      · simp only [decide_eq_false hq, decide_eq_false hz, ro1 h, ro2 h, cond_true, cond_false]
        try (repeat' (first | rfl | refine bif_ok (fun _ => ?_) (fun _ => ?_)))
  · unfold OUT_law16_SpanStepIsPixelByPixel_8
    refine okO_bif (fun h => ?_) (fun _ => okO_exit 0)
    have h : p9 < p7 := of_decide_eq_true h
    by_cases hq : p9 < LN p1
    · have q1 : INB p1 p9 = true := INB_of h1 hq
      by_cases hz : p9 < LN p2
      · have q2 : INB p2 p9 = true := INB_of h1 hz
        simp only [decide_eq_true hq, decide_eq_true hz, q1, q2, ro1 h, ro2 h, cond_true]
        repeat' (first | refine okO_bif (fun _ => ?_) (fun _ => ?_) | exact nx h _ _)
      · simp only [decide_eq_true hq, decide_eq_false hz, q1, ro1 h, ro2 h, cond_true, cond_false]
        repeat' (first | refine okO_bif (fun _ => ?_) (fun _ => ?_) | exact nx h _ _)
    · by_cases hz : p9 < LN p2
      · have q2 : INB p2 p9 = true := INB_of h1 hz
        simp only [decide_eq_false hq, decide_eq_true hz, q2, ro1 h, ro2 h, cond_true, cond_false]
        repeat' (first | refine okO_bif (fun _ => ?_) (fun _ => ?_) | exact nx h _ _)
      · simp only [decide_eq_false hq, decide_eq_false hz, ro1 h, ro2 h, cond_true, cond_false]
        repeat' (first | refine okO_bif (fun _ => ?_) (fun _ => ?_) | exact nx h _ _))
def head_law16_SpanStepIsPixelByPixel_21 : Shp := ⟨[.p (.c (.h (.b))), .any, .any, .any, .any, .any, .any, .any, .any, .any, .any, .any, .any, .any, .any, .any, .any, .any, .any, .p (.c (.h (.i .u16))), .p (.c (.h (.i .i64))), .p (.c (.h (.i .i64))), .p (.c (.h (.i .i64))), .p (.c (.h (.l [.i .u16, .i .u16, .i .u16, .i .u16, .i .u16]))), .p (.c (.h (.l [.i .u16, .i .u16, .i .u16, .i .u16, .i .u16, .i .u16]))), .p (.c (.h (.l [.i .u16, .i .u16, .i .u16, .i .u16, .i .u16]))), .any, .any, .any, .p (.c (.h (.l [.i .u16, .i .u16, .i .u16, .i .u16, .i .u16, .i .u16]))), .any, .p (.c (.h (.l [.i .u16, .i .u16, .i .u16, .i .u16, .i .u16]))), .any, .p (.c (.h (.i .i64))), .any, .any, .any, .any, .any, .any, .any, .any, .any, .any, .any, .any, .any, .any, .any, .any, .any, .any, .any, .any, .any, .any, .any, .any, .any, .any, .any, .any, .any, .any, .any, .any, .any, .any, .any, .any, .any, .any, .any, .any, .any, .any, .any, .any, .any, .any, .any, .any, .any, .any, .any, .any, .any, .any, .any, .any, .any, .any, .any, .any, .any, .any, .any, .any, .any, .any, .any, .any, .any, .any, .any, .any, .any, .any, .any, .any, .any, .any, .any, .any, .any, .any, .any, .any, .any, .any, .any, .any, .any, .any, .any, .any, .any, .any, .any, .any, .any, .any, .any, .any, .any, .any, .any, .any, .any, .any, .any, .any, .any, .any, .any, .any, .any, .any, .any, .any, .any, .any, .any, .any, .any, .any, .any, .any, .any, .any, .any, .any, .any, .any, .any, .any, .any, .any, .any, .any, .any, .any, .any, .any, .any, .any, .any, .any, .any, .any, .any, .any, .any, .any, .any, .any, .any, .any, .any], []⟩
def outs_law16_SpanStepIsPixelByPixel_21 : List (Xt × Shp × Nat) := [(.ret, ⟨[.any, .any, .any, .any, .any, .any, .any, .any, .any, .any, .any, .any, .any, .any, .any, .any, .any, .any, .p (.c (.h (.b))), .any, .any, .any, .any, .any, .any, .any, .any, .any, .any, .any, .any, .any, .any, .any, .any, .any, .any, .any, .any, .any, .any, .any, .any, .any, .any, .any, .any, .any, .any, .any, .any, .any, .any, .any, .any, .any, .any, .any, .any, .any, .any, .any, .any, .any, .any, .any, .any, .any, .any, .any, .any, .any, .any, .any, .any, .any, .any, .any, .any, .any, .any, .any, .any, .any, .any, .any, .any, .any, .any, .any, .any, .any, .any, .any, .any, .any, .any, .any, .any, .any, .any, .any, .any, .any, .any, .any, .any, .any, .any, .any, .any, .any, .any, .any, .any, .any, .any, .any, .any, .any, .any, .any, .any, .any, .any, .any, .any, .any, .any, .any, .any, .any, .any, .any, .any, .any, .any, .any, .any, .any, .any, .any, .any, .any, .any, .any, .any, .any, .any, .any, .any, .any, .any, .any, .any, .any, .any, .any, .any, .any, .any, .any, .any, .any, .any, .any, .any, .any, .any, .any, .any, .any, .any, .any, .any, .any, .any, .any, .any, .any, .any, .any, .any, .any, .any, .any, .any, .any, .any], []⟩, 0), (.exit 2, ⟨[.any, .any, .any, .any, .any, .any, .any, .any, .any, .any, .any, .any, .any, .any, .any, .any, .any, .any, .any, .any, .any, .any, .any, .any, .any, .any, .any, .any, .any, .any, .any, .any, .any, .any, .any, .any, .any, .any, .any, .any, .any, .any, .any, .any, .any, .any, .any, .any, .any, .any, .any, .any, .any, .any, .any, .any, .any, .any, .any, .any, .any, .any, .any, .any, .any, .any, .any, .any, .any, .any, .any, .any, .any, .any, .any, .any, .any, .any, .any, .any, .any, .any, .any, .any, .any, .any, .any, .any, .any, .any, .any, .any, .any, .any, .any, .any, .any, .any, .any, .any, .any, .any, .any, .any, .any, .any, .any, .any, .any, .any, .any, .any, .any, .any, .any, .any, .any, .any, .any, .any, .any, .any, .any, .any, .any, .any, .any, .any, .any, .any, .any, .any, .any, .any, .any, .any, .any, .any, .any, .any, .any, .any, .any, .any, .any, .any, .any, .any, .any, .any, .any, .any, .any, .any, .any, .any, .any, .any, .any, .any, .any, .any, .any, .any, .any, .any, .any, .any, .any, .any, .any, .any, .any, .any, .any, .any, .any, .any, .any, .any, .any, .any, .any, .any, .any, .any, .any, .any, .any], []⟩, 0)]
noncomputable def OUT_law16_SpanStepIsPixelByPixel_21 (p0 : Bool) (p1 : Int) (p2 : Int) (p3 : Int) (p4 : Int) (p5 : Value) (p6 : Value) (p7 : Value) (p8 : Value) (p9 : Value) (p10 : Int) : List Value :=
    bif (decide (p10 < p4)) then
      (bif (INB p5 p10) then
        (bif (INB p6 p10) then
          (bif (INB p7 p10) then
            (bif (INB p6 p10) then
              (bif (INB p7 p10) then
                (let x0 := F_group_Step p0 p2 p3 p1 (num (CV (IX p5 p10) 0)) (num (CV (IX p5 p10) 1)) (num (CV (IX p5 p10) 2)) (num (CV (IX p5 p10) 3)) (num (CV (IX p5 p10) 4)) (num (CV (IX p6 p10) 0)) (num (CV (IX p6 p10) 1)) (num (CV (IX p6 p10) 2)) (num (CV (IX p6 p10) 3)) (num (CV (IX p6 p10) 4)) (num (CV (IX p6 p10) 5)) (num (CV (IX p7 p10) 0)) (num (CV (IX p7 p10) 1)) (num (CV (IX p7 p10) 2)) (num (CV (IX p7 p10) 3)) (num (CV (IX p7 p10) 4))
                bif (!x0.2.2.2.2.2.2) then
                  ([.int .i64 0, .bool false])
                else
                  (let x1 := F_group_Result (num (CV (IX p6 p10) 0)) (num (CV (IX p6 p10) 1)) (num (CV (IX p6 p10) 2)) (num (CV (IX p6 p10) 3)) (num (CV (IX p6 p10) 4)) (num (CV (IX p6 p10) 5)) (num (CV (IX p7 p10) 0)) (num (CV (IX p7 p10) 1)) (num (CV (IX p7 p10) 2)) (num (CV (IX p7 p10) 3)) (num (CV (IX p7 p10) 4)) p1
                  bif (!x1.2.2.2.2.2) then
                    ([.int .i64 0, .bool false])
                  else
                    (bif (INB p8 p10) then
                      (bif (!((((num (CV (IX p8 p10) 0)) == x0.1) && (((num (CV (IX p8 p10) 1)) == x0.2.1) && ((num (CV (IX p8 p10) 2)) == x0.2.2.1))) && (((num (CV (IX p8 p10) 3)) == x0.2.2.2.1) && (((num (CV (IX p8 p10) 4)) == x0.2.2.2.2.1) && ((num (CV (IX p8 p10) 5)) == x0.2.2.2.2.2.1))))) then
                        ([.int .i64 0, .bool false])
                      else
                        (bif (INB p9 p10) then
                          (bif (!((((num (CV (IX p9 p10) 0)) == x1.1) && (((num (CV (IX p9 p10) 1)) == x1.2.1) && ((num (CV (IX p9 p10) 2)) == x1.2.2.1))) && (((num (CV (IX p9 p10) 3)) == x1.2.2.2.1) && ((num (CV (IX p9 p10) 4)) == x1.2.2.2.2.1)))) then
                            ([.int .i64 0, .bool false])
                          else
                            ([.int .i64 (-1), .bool p0, .int .u16 p1, .int .i64 p2, .int .i64 p3, .int .i64 p4, p5, p6, p7, p8, p9, .int .i64 (IntKind.i64.wrap (p10 + 1))]))
                        else
                          ([])))
                    else
                      ([]))))
              else
                ([]))
            else
              ([]))
          else
            ([]))
        else
          ([]))
      else
        ([]))
    else
      ([.int .i64 1])
noncomputable def OL_law16_SpanStepIsPixelByPixel_21 (xs : List Value) : List Value := OUT_law16_SpanStepIsPixelByPixel_21 (tru (xs.getD 0 undef)) (num (xs.getD 1 undef)) (num (xs.getD 2 undef)) (num (xs.getD 3 undef)) (num (xs.getD 4 undef)) (xs.getD 5 undef) (xs.getD 6 undef) (xs.getD 7 undef) (xs.getD 8 undef) (xs.getD 9 undef) (num (xs.getD 10 undef))
noncomputable def LF_law16_SpanStepIsPixelByPixel_21 : List Value → List Value := LFof OL_law16_SpanStepIsPixelByPixel_21
def pre_law16_SpanStepIsPixelByPixel_21 (xs : List Value) : Bool := decide (LN (xs.getD 5 undef) = (num (xs.getD 4 undef))) && decide (LN (xs.getD 6 undef) = (num (xs.getD 4 undef))) && decide (LN (xs.getD 7 undef) = (num (xs.getD 4 undef))) && decide (LN (xs.getD 8 undef) = (num (xs.getD 4 undef))) && decide (LN (xs.getD 9 undef) = (num (xs.getD 4 undef))) && decide (0 ≤ (num (xs.getD 10 undef))) && decide ((num (xs.getD 4 undef)) ≤ 1000)
noncomputable def LC_law16_SpanStepIsPixelByPixel_21 : LoopC := ⟨6, 21, LF_law16_SpanStepIsPixelByPixel_21, pre_law16_SpanStepIsPixelByPixel_21, 0, head_law16_SpanStepIsPixelByPixel_21, outs_law16_SpanStepIsPixelByPixel_21⟩
theorem LF_law16_SpanStepIsPixelByPixel_21_go (p0 : Bool) (p1 : Int) (p2 : Int) (p3 : Int) (p4 : Int) (p5 : Value) (p6 : Value) (p7 : Value) (p8 : Value) (p9 : Value) (p10 : Int) : LF_law16_SpanStepIsPixelByPixel_21 [.bool p0, .int .u16 p1, .int .i64 p2, .int .i64 p3, .int .i64 p4, p5, p6, p7, p8, p9, .int .i64 p10] = goOn LF_law16_SpanStepIsPixelByPixel_21 (OUT_law16_SpanStepIsPixelByPixel_21 p0 p1 p2 p3 p4 p5 p6 p7 p8 p9 p10) := LFof_eq _ _
theorem okBL_law16_SpanStepIsPixelByPixel_21 (p0 : Bool) (p1 : Int) (p2 : Int) (p3 : Int) (p4 : Int) (p5 : Value) (p6 : Value) (p7 : Value) (p8 : Value) (p9 : Value) (p10 : Int) : (evL ⟨[C_span_Result, C_gen_Pixels, C_span_Step], [LC_law16_SpanStepIsPixelByPixel_8]⟩ Tryd.prog [S_gen_Mod, S_gen_Max, S_gen_Back, S_gen_Accum, S_group_Step, S_group_Result, S_gen_At, S_law16_awake] 1000 LC_law16_SpanStepIsPixelByPixel_21 [.bool p0, .int .u16 p1, .int .i64 p2, .int .i64 p3, .int .i64 p4, p5, p6, p7, p8, p9, .int .i64 p10]).ok =
    bif (decide (p10 < p4)) then
      (bif (INB p5 p10) then
        (bif (INB p6 p10) then
          (bif (INB p7 p10) then
            (bif (INB p6 p10) then
              (bif (INB p7 p10) then
                (let x0 := F_group_Step p0 p2 p3 p1 (num (CV (IX p5 p10) 0)) (num (CV (IX p5 p10) 1)) (num (CV (IX p5 p10) 2)) (num (CV (IX p5 p10) 3)) (num (CV (IX p5 p10) 4)) (num (CV (IX p6 p10) 0)) (num (CV (IX p6 p10) 1)) (num (CV (IX p6 p10) 2)) (num (CV (IX p6 p10) 3)) (num (CV (IX p6 p10) 4)) (num (CV (IX p6 p10) 5)) (num (CV (IX p7 p10) 0)) (num (CV (IX p7 p10) 1)) (num (CV (IX p7 p10) 2)) (num (CV (IX p7 p10) 3)) (num (CV (IX p7 p10) 4))
                bif (!x0.2.2.2.2.2.2) then
                  (true)
                else
                  (let x1 := F_group_Result (num (CV (IX p6 p10) 0)) (num (CV (IX p6 p10) 1)) (num (CV (IX p6 p10) 2)) (num (CV (IX p6 p10) 3)) (num (CV (IX p6 p10) 4)) (num (CV (IX p6 p10) 5)) (num (CV (IX p7 p10) 0)) (num (CV (IX p7 p10) 1)) (num (CV (IX p7 p10) 2)) (num (CV (IX p7 p10) 3)) (num (CV (IX p7 p10) 4)) p1
                  bif (!x1.2.2.2.2.2) then
                    (true)
                  else
                    (bif (INB p8 p10) then
                      (bif (!((((num (CV (IX p8 p10) 0)) == x0.1) && (((num (CV (IX p8 p10) 1)) == x0.2.1) && ((num (CV (IX p8 p10) 2)) == x0.2.2.1))) && (((num (CV (IX p8 p10) 3)) == x0.2.2.2.1) && (((num (CV (IX p8 p10) 4)) == x0.2.2.2.2.1) && ((num (CV (IX p8 p10) 5)) == x0.2.2.2.2.2.1))))) then
                        (true)
                      else
                        (bif (INB p9 p10) then
                          (true)
                        else
                          (false)))
                    else
                      (false))))
              else
                (false))
            else
              (false))
          else
            (false))
        else
          (false))
      else
        (false))
    else
      (true) := (okR_eq _).trans (by kernel_rfl)
theorem step_law16_SpanStepIsPixelByPixel_21 (p0 : Bool) (p1 : Int) (p2 : Int) (p3 : Int) (p4 : Int) (p5 : Value) (p6 : Value) (p7 : Value) (p8 : Value) (p9 : Value) (p10 : Int) : (evL ⟨[C_span_Result, C_gen_Pixels, C_span_Step], [LC_law16_SpanStepIsPixelByPixel_8]⟩ Tryd.prog [S_gen_Mod, S_gen_Max, S_gen_Back, S_gen_Accum, S_group_Step, S_group_Result, S_gen_At, S_law16_awake] 1000 LC_law16_SpanStepIsPixelByPixel_21 [.bool p0, .int .u16 p1, .int .i64 p2, .int .i64 p3, .int .i64 p4, p5, p6, p7, p8, p9, .int .i64 p10]).outL = OUT_law16_SpanStepIsPixelByPixel_21 p0 p1 p2 p3 p4 p5 p6 p7 p8 p9 p10 := (fold_eq (fun l => l) _).trans (by kernel_rfl)
theorem one_law16_SpanStepIsPixelByPixel_21 : (loopsBy Tryd.prog 6 21).length = 1 := by kernel_rfl
theorem env_law16_SpanStepIsPixelByPixel_21 : EnvOK Tryd.prog InvN ⟨[C_span_Result, C_gen_Pixels, C_span_Step], [LC_law16_SpanStepIsPixelByPixel_8]⟩ ∧ AllOK Tryd.prog InvN [S_gen_Mod, S_gen_Max, S_gen_Back, S_gen_Accum, S_group_Step, S_group_Result, S_gen_At, S_law16_awake] := ⟨⟨(allC_cons ok_span_Result (allC_cons ok_gen_Pixels (allC_cons ok_span_Step allC_nil))), (allL_cons ok_law16_SpanStepIsPixelByPixel_8 allL_nil)⟩, (allOK_cons ok_gen_Mod.any (allOK_cons ok_gen_Max.any (allOK_cons ok_gen_Back (allOK_cons ok_gen_Accum (allOK_cons ok_group_Step (allOK_cons ok_group_Result (allOK_cons ok_gen_At (allOK_cons ok_law16_awake allOK_nil))))))))⟩
theorem lp_law16_SpanStepIsPixelByPixel_21 (meas : List Value → Nat) (h : ∀ p0 p1 p2 p3 p4 p5 p6 p7 p8 p9 p10, IntKind.u16.min ≤ p1 → p1 ≤ IntKind.u16.max → IntKind.i64.min ≤ p2 → p2 ≤ IntKind.i64.max → IntKind.i64.min ≤ p3 → p3 ≤ IntKind.i64.max → IntKind.i64.min ≤ p4 → p4 ≤ IntKind.i64.max → inKind (.l [.i .u16, .i .u16, .i .u16, .i .u16, .i .u16]) p5 → inKind (.l [.i .u16, .i .u16, .i .u16, .i .u16, .i .u16, .i .u16]) p6 → inKind (.l [.i .u16, .i .u16, .i .u16, .i .u16, .i .u16]) p7 → inKind (.l [.i .u16, .i .u16, .i .u16, .i .u16, .i .u16, .i .u16]) p8 → inKind (.l [.i .u16, .i .u16, .i .u16, .i .u16, .i .u16]) p9 → IntKind.i64.min ≤ p10 → p10 ≤ IntKind.i64.max → pre_law16_SpanStepIsPixelByPixel_21 [.bool p0, .int .u16 p1, .int .i64 p2, .int .i64 p3, .int .i64 p4, p5, p6, p7, p8, p9, .int .i64 p10] = true → (evL ⟨[C_span_Result, C_gen_Pixels, C_span_Step], [LC_law16_SpanStepIsPixelByPixel_8]⟩ Tryd.prog [S_gen_Mod, S_gen_Max, S_gen_Back, S_gen_Accum, S_group_Step, S_group_Result, S_gen_At, S_law16_awake] 1000 LC_law16_SpanStepIsPixelByPixel_21 [.bool p0, .int .u16 p1, .int .i64 p2, .int .i64 p3, .int .i64 p4, p5, p6, p7, p8, p9, .int .i64 p10]).ok = true ∧ okO pre_law16_SpanStepIsPixelByPixel_21 meas (meas [.bool p0, .int .u16 p1, .int .i64 p2, .int .i64 p3, .int .i64 p4, p5, p6, p7, p8, p9, .int .i64 p10]) (OUT_law16_SpanStepIsPixelByPixel_21 p0 p1 p2 p3 p4 p5 p6 p7 p8 p9 p10)) : LoopTrue Tryd.prog InvN LC_law16_SpanStepIsPixelByPixel_21 := loop_lf env_law16_SpanStepIsPixelByPixel_21 1000 LC_law16_SpanStepIsPixelByPixel_21 one_law16_SpanStepIsPixelByPixel_21 meas OL_law16_SpanStepIsPixelByPixel_21 rfl (fun xs hk hp => by
  have hk : KindsL [.b, .i .u16, .i .i64, .i .i64, .i .i64, .l [.i .u16, .i .u16, .i .u16, .i .u16, .i .u16], .l [.i .u16, .i .u16, .i .u16, .i .u16, .i .u16, .i .u16], .l [.i .u16, .i .u16, .i .u16, .i .u16, .i .u16], .l [.i .u16, .i .u16, .i .u16, .i .u16, .i .u16, .i .u16], .l [.i .u16, .i .u16, .i .u16, .i .u16, .i .u16], .i .i64] xs := hk
  obtain ⟨_, _, rfl, ⟨p0, rfl⟩, _, _, rfl, ⟨p1, rfl, p1lo, p1hi⟩, _, _, rfl, ⟨p2, rfl, p2lo, p2hi⟩, _, _, rfl, ⟨p3, rfl, p3lo, p3hi⟩, _, _, rfl, ⟨p4, rfl, p4lo, p4hi⟩, p5, _, rfl, p5k, p6, _, rfl, p6k, p7, _, rfl, p7k, p8, _, rfl, p8k, p9, _, rfl, p9k, _, _, rfl, ⟨p10, rfl, p10lo, p10hi⟩, rfl⟩ := hk
  have h := h p0 p1 p2 p3 p4 p5 p6 p7 p8 p9 p10 p1lo p1hi p2lo p2hi p3lo p3hi p4lo p4hi p5k p6k p7k p8k p9k p10lo p10hi hp
  exact ⟨h.1, step_law16_SpanStepIsPixelByPixel_21 p0 p1 p2 p3 p4 p5 p6 p7 p8 p9 p10, h.2⟩)
theorem ok_law16_SpanStepIsPixelByPixel_21 : LoopTrue Tryd.prog InvN LC_law16_SpanStepIsPixelByPixel_21 := lp_law16_SpanStepIsPixelByPixel_21 (fun xs => ((num (xs.getD 4 undef)) - (num (xs.getD 10 undef))).toNat) (by
  intro p0 p1 p2 p3 p4 p5 p6 p7 p8 p9 p10 _ _ _ _ _ _ _ _ p5k p6k p7k p8k p9k _ _ hp
  have hp : (decide (LN p5 = p4) && decide (LN p6 = p4) && decide (LN p7 = p4) && decide (LN p8 = p4) && decide (LN p9 = p4) && decide (0 ≤ p10) && decide (p4 ≤ 1000)) = true := hp
  simp only [Bool.and_eq_true, decide_eq_true_eq] at hp
  obtain ⟨⟨⟨⟨⟨⟨h1, h2⟩, h3⟩, h4⟩, h5⟩, h6⟩, h7⟩ := hp
  have nx : p10 < p4 → ∀ (_ : Unit), okO pre_law16_SpanStepIsPixelByPixel_21 (fun xs => ((num (xs.getD 4 undef)) - (num (xs.getD 10 undef))).toNat) (p4 - p10).toNat [.int .i64 (-1), .bool p0, .int .u16 p1, .int .i64 p2, .int .i64 p3, .int .i64 p4, p5, p6, p7, p8, p9, .int .i64 (IntKind.i64.wrap (p10 + 1))] := fun h _ => okO_next (by
    show (decide (LN p5 = p4) && decide (LN p6 = p4) && decide (LN p7 = p4) && decide (LN p8 = p4) && decide (LN p9 = p4) && decide (0 ≤ IntKind.i64.wrap (p10 + 1)) && decide (p4 ≤ 1000)) = true
    rw [i64_in (by omega) (by omega)]
    simp only [Bool.and_eq_true, decide_eq_true_eq]
    omega) (by
    show (p4 - IntKind.i64.wrap (p10 + 1)).toNat < (p4 - p10).toNat
    rw [i64_in (by omega) (by omega)]
    omega)
  rw [okBL_law16_SpanStepIsPixelByPixel_21]
  refine ⟨bif_ok (fun h => ?_) (fun _ => rfl), ?_⟩
  · have h : p10 < p4 := of_decide_eq_true h
    have g0 : INB p5 p10 = true := INB_of h6 (by omega)
    have g1 : INB p6 p10 = true := INB_of h6 (by omega)
    have g2 : INB p7 p10 = true := INB_of h6 (by omega)
    have g3 : INB p8 p10 = true := INB_of h6 (by omega)
    have g4 : INB p9 p10 = true := INB_of h6 (by omega)
    simp only [g0, g1, g2, g3, g4, cond_true, Bool.cond_self]
    try (repeat' (first | rfl | refine bif_ok (fun _ => ?_) (fun _ => ?_)))
  · unfold OUT_law16_SpanStepIsPixelByPixel_21
    refine okO_bif (fun h => ?_) (fun _ => okO_exit 1)
    have h : p10 < p4 := of_decide_eq_true h
    have g0 : INB p5 p10 = true := INB_of h6 (by omega)
    have g1 : INB p6 p10 = true := INB_of h6 (by omega)
    have g2 : INB p7 p10 = true := INB_of h6 (by omega)
    have g3 : INB p8 p10 = true := INB_of h6 (by omega)
    have g4 : INB p9 p10 = true := INB_of h6 (by omega)
    simp only [g0, g1, g2, g3, g4, cond_true]
    repeat' (first | refine okO_bif (fun _ => ?_) (fun _ => ?_) | exact okO_exit 0 | exact nx h ()))
noncomputable def L_law16_SpanStepIsPixelByPixel : List Value → List Value := Classical.choose (veil fun vs => (evFM ⟨[C_span_Result, C_gen_Pixels, C_span_Step], [LC_law16_SpanStepIsPixelByPixel_8, LC_law16_SpanStepIsPixelByPixel_21]⟩ Tryd.prog [S_gen_Mod, S_gen_Max, S_gen_Back, S_gen_Accum, S_group_Step, S_group_Result, S_gen_At, S_law16_awake] 1000 6 (inL A_law16_SpanStepIsPixelByPixel vs) R_law16_SpanStepIsPixelByPixel).outL)
theorem L_law16_SpanStepIsPixelByPixel_is (vs : List Value) : L_law16_SpanStepIsPixelByPixel vs = (evFM ⟨[C_span_Result, C_gen_Pixels, C_span_Step], [LC_law16_SpanStepIsPixelByPixel_8, LC_law16_SpanStepIsPixelByPixel_21]⟩ Tryd.prog [S_gen_Mod, S_gen_Max, S_gen_Back, S_gen_Accum, S_group_Step, S_group_Result, S_gen_At, S_law16_awake] 1000 6 (inL A_law16_SpanStepIsPixelByPixel vs) R_law16_SpanStepIsPixelByPixel).outL := Classical.choose_spec (veil fun vs => (evFM ⟨[C_span_Result, C_gen_Pixels, C_span_Step], [LC_law16_SpanStepIsPixelByPixel_8, LC_law16_SpanStepIsPixelByPixel_21]⟩ Tryd.prog [S_gen_Mod, S_gen_Max, S_gen_Back, S_gen_Accum, S_group_Step, S_group_Result, S_gen_At, S_law16_awake] 1000 6 (inL A_law16_SpanStepIsPixelByPixel vs) R_law16_SpanStepIsPixelByPixel).outL) vs
noncomputable def S_law16_SpanStepIsPixelByPixel : Sum := ⟨6, L_law16_SpanStepIsPixelByPixel, A_law16_SpanStepIsPixelByPixel, R_law16_SpanStepIsPixelByPixel⟩
theorem env_law16_SpanStepIsPixelByPixel : EnvOK Tryd.prog InvN ⟨[C_span_Result, C_gen_Pixels, C_span_Step], [LC_law16_SpanStepIsPixelByPixel_8, LC_law16_SpanStepIsPixelByPixel_21]⟩ ∧ AllOK Tryd.prog InvN [S_gen_Mod, S_gen_Max, S_gen_Back, S_gen_Accum, S_group_Step, S_group_Result, S_gen_At, S_law16_awake] := ⟨⟨(allC_cons ok_span_Result (allC_cons ok_gen_Pixels (allC_cons ok_span_Step allC_nil))), (allL_cons ok_law16_SpanStepIsPixelByPixel_8 (allL_cons ok_law16_SpanStepIsPixelByPixel_21 allL_nil))⟩, (allOK_cons ok_gen_Mod.any (allOK_cons ok_gen_Max.any (allOK_cons ok_gen_Back (allOK_cons ok_gen_Accum (allOK_cons ok_group_Step (allOK_cons ok_group_Result (allOK_cons ok_gen_At (allOK_cons ok_law16_awake allOK_nil))))))))⟩
theorem okG_law16_SpanStepIsPixelByPixel (vs : List Value) : (evFM ⟨[C_span_Result, C_gen_Pixels, C_span_Step], [LC_law16_SpanStepIsPixelByPixel_8, LC_law16_SpanStepIsPixelByPixel_21]⟩ Tryd.prog [S_gen_Mod, S_gen_Max, S_gen_Back, S_gen_Accum, S_group_Step, S_group_Result, S_gen_At, S_law16_awake] 1000 6 (inL A_law16_SpanStepIsPixelByPixel vs) R_law16_SpanStepIsPixelByPixel).goodX R_law16_SpanStepIsPixelByPixel = true := by kernel_rfl
theorem okB_law16_SpanStepIsPixelByPixel (p0 : Bool) (p1 : Int) (p2 : Int) (p3 : Int) (p4 : Value) (p5 : Value) (p6 : Value) (p7 : Value) (p8 : Int) (p9 : Int) : (evFM ⟨[C_span_Result, C_gen_Pixels, C_span_Step], [LC_law16_SpanStepIsPixelByPixel_8, LC_law16_SpanStepIsPixelByPixel_21]⟩ Tryd.prog [S_gen_Mod, S_gen_Max, S_gen_Back, S_gen_Accum, S_group_Step, S_group_Result, S_gen_At, S_law16_awake] 1000 6 (inL A_law16_SpanStepIsPixelByPixel [.bool p0, .int .i64 p1, .int .i64 p2, .int .i64 p3, p4, p5, p6, p7, .int .i64 p8, .int .i64 p9]) R_law16_SpanStepIsPixelByPixel).ok =
    bif p0 then
      (let x0 := F_gen_Mod p8 8
      let x1 := F_gen_Max p9
      bif (pre_gen_Pixels [.int .i64 p3, p4, .int .i64 x0, .int .u16 x1]) then
        (let x2 := F_gen_Mod p2 12
        let x3 := F_gen_Pixels p3 p4 x0 x1
        bif (pre_law16_SpanStepIsPixelByPixel_8 [.bool p0, p5, p6, p7, .int .u16 x1, .int .i64 4, .int .i64 (IntKind.i64.wrap (1 + x2)), .int .i64 x0, x3, .int .i64 0, NILV, NILV]) then
          (let x4 := LF_law16_SpanStepIsPixelByPixel_8 [.bool p0, p5, p6, p7, .int .u16 x1, .int .i64 4, .int .i64 (IntKind.i64.wrap (1 + x2)), .int .i64 x0, x3, .int .i64 0, NILV, NILV]
          bif (pre_span_Step [.bool (tru (x4.getD 1 undef)), .int .i64 (num (x4.getD 3 undef)), .int .i64 (num (x4.getD 4 undef)), .int .u16 (num (x4.getD 2 undef)), (x4.getD 6 undef), (x4.getD 7 undef), (x4.getD 8 undef)]) then
            (bif (pre_span_Result [(x4.getD 7 undef), (x4.getD 8 undef), .int .u16 (num (x4.getD 2 undef))]) then
              (let x5 := F_law16_awake
              bif (!x5) then
                (true)
              else
                (let x6 := F_span_Step (tru (x4.getD 1 undef)) (num (x4.getD 3 undef)) (num (x4.getD 4 undef)) (num (x4.getD 2 undef)) (x4.getD 6 undef) (x4.getD 7 undef) (x4.getD 8 undef)
                bif (!x6.2) then
                  (true)
                else
                  (let x7 := F_span_Result (x4.getD 7 undef) (x4.getD 8 undef) (num (x4.getD 2 undef))
                  bif (!x7.2) then
                    (true)
                  else
                    (bif ((LN x6.1) != (num (x4.getD 5 undef))) then
                      (true)
                    else
                      (bif ((LN x7.1) != (num (x4.getD 5 undef))) then
                        (true)
                      else
                        (bif (pre_law16_SpanStepIsPixelByPixel_21 [.bool (tru (x4.getD 1 undef)), .int .u16 (num (x4.getD 2 undef)), .int .i64 (num (x4.getD 3 undef)), .int .i64 (num (x4.getD 4 undef)), .int .i64 (num (x4.getD 5 undef)), (x4.getD 6 undef), (x4.getD 7 undef), (x4.getD 8 undef), x6.1, x7.1, .int .i64 0]) then
                          (true)
                        else
                          (false)))))))
            else
              (false))
          else
            (false))
        else
          (false))
      else
        (false))
    else
      (let x8 := F_gen_Mod p8 8
      let x9 := F_gen_Max p9
      bif (pre_gen_Pixels [.int .i64 p3, p4, .int .i64 x8, .int .u16 x9]) then
        (let x10 := F_gen_Mod p1 12
        let x11 := F_gen_Mod p2 12
        let x12 := F_gen_Pixels p3 p4 x8 x9
        bif (pre_law16_SpanStepIsPixelByPixel_8 [.bool p0, p5, p6, p7, .int .u16 x9, .int .i64 (IntKind.i64.wrap (1 + x10)), .int .i64 (IntKind.i64.wrap (1 + x11)), .int .i64 x8, x12, .int .i64 0, NILV, NILV]) then
          (let x13 := LF_law16_SpanStepIsPixelByPixel_8 [.bool p0, p5, p6, p7, .int .u16 x9, .int .i64 (IntKind.i64.wrap (1 + x10)), .int .i64 (IntKind.i64.wrap (1 + x11)), .int .i64 x8, x12, .int .i64 0, NILV, NILV]
          bif (pre_span_Step [.bool (tru (x13.getD 1 undef)), .int .i64 (num (x13.getD 3 undef)), .int .i64 (num (x13.getD 4 undef)), .int .u16 (num (x13.getD 2 undef)), (x13.getD 6 undef), (x13.getD 7 undef), (x13.getD 8 undef)]) then
            (bif (pre_span_Result [(x13.getD 7 undef), (x13.getD 8 undef), .int .u16 (num (x13.getD 2 undef))]) then
              (let x14 := F_law16_awake
              bif (!x14) then
                (true)
              else
                (let x15 := F_span_Step (tru (x13.getD 1 undef)) (num (x13.getD 3 undef)) (num (x13.getD 4 undef)) (num (x13.getD 2 undef)) (x13.getD 6 undef) (x13.getD 7 undef) (x13.getD 8 undef)
                bif (!x15.2) then
                  (true)
                else
                  (let x16 := F_span_Result (x13.getD 7 undef) (x13.getD 8 undef) (num (x13.getD 2 undef))
                  bif (!x16.2) then
                    (true)
                  else
                    (bif ((LN x15.1) != (num (x13.getD 5 undef))) then
                      (true)
                    else
                      (bif ((LN x16.1) != (num (x13.getD 5 undef))) then
                        (true)
                      else
                        (bif (pre_law16_SpanStepIsPixelByPixel_21 [.bool (tru (x13.getD 1 undef)), .int .u16 (num (x13.getD 2 undef)), .int .i64 (num (x13.getD 3 undef)), .int .i64 (num (x13.getD 4 undef)), .int .i64 (num (x13.getD 5 undef)), (x13.getD 6 undef), (x13.getD 7 undef), (x13.getD 8 undef), x15.1, x16.1, .int .i64 0]) then
                          (true)
                        else
                          (false)))))))
            else
              (false))
          else
            (false))
        else
          (false))
      else
        (false)) := (okR_eq _).trans (by kernel_rfl)
theorem okA_law16_SpanStepIsPixelByPixel (h : ∀ p0 p1 p2 p3 p4 p5 p6 p7 p8 p9 , IntKind.i64.min ≤ p1 → p1 ≤ IntKind.i64.max → IntKind.i64.min ≤ p2 → p2 ≤ IntKind.i64.max → IntKind.i64.min ≤ p3 → p3 ≤ IntKind.i64.max → inKind (.l [.i .i64, .i .i64, .i .i64, .i .i64, .i .i64]) p4 → inKind (.l [.i .i64, .i .i64, .i .i64, .i .i64, .i .i64]) p5 → inKind (.l [.i .i64, .i .i64, .i .i64, .i .i64, .i .i64]) p6 → inKind (.l [.i .i64]) p7 → IntKind.i64.min ≤ p8 → p8 ≤ IntKind.i64.max → IntKind.i64.min ≤ p9 → p9 ≤ IntKind.i64.max → (evFM ⟨[C_span_Result, C_gen_Pixels, C_span_Step], [LC_law16_SpanStepIsPixelByPixel_8, LC_law16_SpanStepIsPixelByPixel_21]⟩ Tryd.prog [S_gen_Mod, S_gen_Max, S_gen_Back, S_gen_Accum, S_group_Step, S_group_Result, S_gen_At, S_law16_awake] 1000 6 (inL A_law16_SpanStepIsPixelByPixel [.bool p0, .int .i64 p1, .int .i64 p2, .int .i64 p3, p4, p5, p6, p7, .int .i64 p8, .int .i64 p9]) R_law16_SpanStepIsPixelByPixel).ok = true) : SumOK Tryd.prog InvN S_law16_SpanStepIsPixelByPixel := sumOK_partL invN_stays env_law16_SpanStepIsPixelByPixel.1 env_law16_SpanStepIsPixelByPixel.2 1000 6 A_law16_SpanStepIsPixelByPixel R_law16_SpanStepIsPixelByPixel L_law16_SpanStepIsPixelByPixel_is okG_law16_SpanStepIsPixelByPixel (fun vs hk => by
  obtain ⟨_, _, rfl, ⟨p0, rfl⟩, _, _, rfl, ⟨p1, rfl, p1lo, p1hi⟩, _, _, rfl, ⟨p2, rfl, p2lo, p2hi⟩, _, _, rfl, ⟨p3, rfl, p3lo, p3hi⟩, p4, _, rfl, p4k, p5, _, rfl, p5k, p6, _, rfl, p6k, p7, _, rfl, p7k, _, _, rfl, ⟨p8, rfl, p8lo, p8hi⟩, _, _, rfl, ⟨p9, rfl, p9lo, p9hi⟩, rfl⟩ := hk
  exact h p0 p1 p2 p3 p4 p5 p6 p7 p8 p9 p1lo p1hi p2lo p2hi p3lo p3hi p4k p5k p6k p7k p8lo p8hi p9lo p9hi)
theorem accLoop {t : Bool} {a b w s : Value} {m o k n : Int} (m0 : 0 ≤ m) (m1 : m ≤ 65535) (hn : n ≤ 1000) : ∀ i, 0 ≤ i → i ≤ n → ∀ x y, AR m x → BR m y → LN x = i → LN y = i →
    ∃ x' y', LF_law16_SpanStepIsPixelByPixel_8 [.bool t, a, b, w, .int .u16 m, .int .i64 o, .int .i64 k, .int .i64 n, s, .int .i64 i, x, y] = [.int .i64 0, .bool t, .int .u16 m, .int .i64 o, .int .i64 k, .int .i64 n, s, x', y'] ∧ AR m x' ∧ BR m y' ∧ LN x' = n ∧ LN y' = n :=
  up_to (fun i h0 h1 ih x y hx hy lx ly => by
    rw [LF_law16_SpanStepIsPixelByPixel_8_go]
    unfold OUT_law16_SpanStepIsPixelByPixel_8
    have ro1 : ∀ cs, RO 12 (SN x cs) = true := fun cs => RO_of (n := 1001) (by rw [LN_SN]; omega) (by decide) (by decide)
    have ro2 : ∀ cs, RO 10 (SN y cs) = true := fun cs => RO_of (n := 1001) (by rw [LN_SN]; omega) (by decide) (by decide)
    have w1 : IntKind.i64.wrap (i + 1) = i + 1 := i64_in (by omega) (by omega)
    have nx : ∀ (c0 c1 c2 c3 c4 c5 d0 d1 d2 d3 d4 : Int), ∃ x' y', goOn LF_law16_SpanStepIsPixelByPixel_8 [.int .i64 (-1), .bool t, a, b, w, .int .u16 m, .int .i64 o, .int .i64 k, .int .i64 n, s, .int .i64 (i + 1), SN x [.int .u16 (F_gen_Accum c0 c1 c2 c3 c4 c5 m).1, .int .u16 (F_gen_Accum c0 c1 c2 c3 c4 c5 m).2.1, .int .u16 (F_gen_Accum c0 c1 c2 c3 c4 c5 m).2.2.1, .int .u16 (F_gen_Accum c0 c1 c2 c3 c4 c5 m).2.2.2.1, .int .u16 (F_gen_Accum c0 c1 c2 c3 c4 c5 m).2.2.2.2.1, .int .u16 (F_gen_Accum c0 c1 c2 c3 c4 c5 m).2.2.2.2.2], SN y [.int .u16 (F_gen_Back d0 d1 d2 d3 d4 m).1, .int .u16 (F_gen_Back d0 d1 d2 d3 d4 m).2.1, .int .u16 (F_gen_Back d0 d1 d2 d3 d4 m).2.2.1, .int .u16 (F_gen_Back d0 d1 d2 d3 d4 m).2.2.2.1, .int .u16 (F_gen_Back d0 d1 d2 d3 d4 m).2.2.2.2]] = [.int .i64 0, .bool t, .int .u16 m, .int .i64 o, .int .i64 k, .int .i64 n, s, x', y'] ∧ AR m x' ∧ BR m y' ∧ LN x' = n ∧ LN y' = n := fun c0 c1 c2 c3 c4 c5 d0 d1 d2 d3 d4 => by
      have ga := gAccumW c0 c1 c2 c3 c4 c5 m0 m1
      have gb := gBackV d0 d1 d2 d3 d4 m0 m1
      rw [goOn_next]
      exact ih _ _ (hx.snoc m1 ga (by omega)) (hy.snoc m1 gb.1 gb.2 (by omega)) (by rw [LN_SN]; omega) (by rw [LN_SN]; omega)
    rw [decide_eq_true h1, cond_true]
    by_cases hq : i < LN a
    · have q1 : INB a i = true := INB_of h0 hq
      by_cases hz : i < LN b
      · have q2 : INB b i = true := INB_of h0 hz
        simp only [decide_eq_true hq, decide_eq_true hz, q1, q2, ro1, ro2, w1, cond_true]
        exact nx _ _ _ _ _ _ _ _ _ _ _
      · simp only [decide_eq_true hq, decide_eq_false hz, q1, ro1, ro2, w1, cond_true, cond_false]
        exact nx _ _ _ _ _ _ _ _ _ _ _
    · by_cases hz : i < LN b
      · have q2 : INB b i = true := INB_of h0 hz
        simp only [decide_eq_false hq, decide_eq_true hz, q2, ro1, ro2, w1, cond_true, cond_false]
        exact nx _ _ _ _ _ _ _ _ _ _ _
      · simp only [decide_eq_false hq, decide_eq_false hz, ro1, ro2, w1, cond_true, cond_false]
        exact nx _ _ _ _ _ _ _ _ _ _ _) (fun x y hx hy lx ly => by
    rw [LF_law16_SpanStepIsPixelByPixel_8_go]
    unfold OUT_law16_SpanStepIsPixelByPixel_8
    rw [decide_eq_false (by omega)]
    exact ⟨x, y, rfl, hx, hy, lx, ly⟩)
theorem pre_lt8 {t : Bool} {a b w s : Value} {m o k n : Int} (h : n ≤ 1000) : pre_law16_SpanStepIsPixelByPixel_8 [.bool t, a, b, w, .int .u16 m, .int .i64 o, .int .i64 k, .int .i64 n, s, .int .i64 0, NILV, NILV] = true := by
  show (decide ((0 : Int) ≤ 0) && decide (LN NILV = 0) && decide (LN NILV = 0) && decide (n ≤ 1000)) = true
  simp only [Bool.and_eq_true, decide_eq_true_eq]
  exact ⟨⟨⟨Int.le_refl 0, LN_nil⟩, LN_nil⟩, h⟩
theorem pre_lt21 {t : Bool} {m o k n : Int} {s x y z v : Value} (h1 : LN s = n) (h2 : LN x = n) (h3 : LN y = n) (h4 : LN z = n) (h5 : LN v = n) (h6 : n ≤ 1000) : pre_law16_SpanStepIsPixelByPixel_21 [.bool t, .int .u16 m, .int .i64 o, .int .i64 k, .int .i64 n, s, x, y, z, v, .int .i64 0] = true := by
  show (decide (LN s = n) && decide (LN x = n) && decide (LN y = n) && decide (LN z = n) && decide (LN v = n) && decide ((0 : Int) ≤ 0) && decide (n ≤ 1000)) = true
  simp only [Bool.and_eq_true, decide_eq_true_eq]
  exact ⟨⟨⟨⟨⟨⟨h1, h2⟩, h3⟩, h4⟩, h5⟩, Int.le_refl 0⟩, h6⟩
theorem ok_law16_SpanStepIsPixelByPixel : SumOK Tryd.prog InvN S_law16_SpanStepIsPixelByPixel := okA_law16_SpanStepIsPixelByPixel (by
  intro p0 p1 p2 p3 p4 p5 p6 p7 p8 p9
  intros
  have hc := mod_bd p8 (n := 8) (by decide) (by decide)
  have hm := mMax p9
  have h1 : F_gen_Mod p8 8 ≤ 1000 := by omega
  have gs := (gPixels (mood := p3) (l := p4) hm.2.1 hm.2.2 h1 hc.1).2
  rw [okB_law16_SpanStepIsPixelByPixel]
  simp only [pre_pixels h1 hc.1, cond_true, pre_lt8 h1]
  generalize F_gen_Pixels p3 p4 (F_gen_Mod p8 8) (F_gen_Max p9) = s at *
  refine bif_ok (fun _ => ?_) (fun _ => ?_)
  all_goals
    first
    | obtain ⟨x, y, e, hx, hy, lx, ly⟩ := accLoop (t := p0) (a := p5) (b := p6) (w := p7) (s := s) (o := 4) (k := IntKind.i64.wrap (1 + F_gen_Mod p2 12)) hm.2.1 hm.2.2 h1 0 (Int.le_refl 0) hc.1 NILV NILV AR.nil BR.nil LN_nil LN_nil
      rw [e]
    | obtain ⟨x, y, e, hx, hy, lx, ly⟩ := accLoop (t := p0) (a := p5) (b := p6) (w := p7) (s := s) (o := IntKind.i64.wrap (1 + F_gen_Mod p1 12)) (k := IntKind.i64.wrap (1 + F_gen_Mod p2 12)) hm.2.1 hm.2.2 h1 0 (Int.le_refl 0) hc.1 NILV NILV AR.nil BR.nil LN_nil LN_nil
      rw [e]
    simp only [List.getD_cons_succ, List.getD_cons_zero, num, tru]
    rw [pre_step (by omega), pre_resu (by omega), cond_true, cond_true]
    refine bif_ok (fun _ => rfl) (fun _ => bif_ok (fun _ => rfl) (fun _ => bif_ok (fun _ => rfl) (fun _ => bif_ok (fun _ => rfl) (fun g1 => bif_ok (fun _ => rfl) (fun g2 => ?_)))))
    simp only [bne_eq_false_iff_eq] at g1 g2
    rw [pre_lt21 gs lx ly g1 g2 h1]
    rfl)
noncomputable def F_law16_SpanStepIsPixelByPixel (p0 : Bool) (p1 : Int) (p2 : Int) (p3 : Int) (p4 : Value) (p5 : Value) (p6 : Value) (p7 : Value) (p8 : Int) (p9 : Int) : Bool := tru ((L_law16_SpanStepIsPixelByPixel [.bool p0, .int .i64 p1, .int .i64 p2, .int .i64 p3, p4, p5, p6, p7, .int .i64 p8, .int .i64 p9]).getD 0 undef)
theorem F_law16_SpanStepIsPixelByPixel_eq (p0 : Bool) (p1 : Int) (p2 : Int) (p3 : Int) (p4 : Value) (p5 : Value) (p6 : Value) (p7 : Value) (p8 : Int) (p9 : Int) : F_law16_SpanStepIsPixelByPixel p0 p1 p2 p3 p4 p5 p6 p7 p8 p9 =
    bif p0 then
      (let x0 := F_gen_Mod p8 8
      let x1 := F_gen_Max p9
      bif (pre_gen_Pixels [.int .i64 p3, p4, .int .i64 x0, .int .u16 x1]) then
        (let x2 := F_gen_Mod p2 12
        let x3 := F_gen_Pixels p3 p4 x0 x1
        bif (pre_law16_SpanStepIsPixelByPixel_8 [.bool p0, p5, p6, p7, .int .u16 x1, .int .i64 4, .int .i64 (IntKind.i64.wrap (1 + x2)), .int .i64 x0, x3, .int .i64 0, NILV, NILV]) then
          (let x4 := LF_law16_SpanStepIsPixelByPixel_8 [.bool p0, p5, p6, p7, .int .u16 x1, .int .i64 4, .int .i64 (IntKind.i64.wrap (1 + x2)), .int .i64 x0, x3, .int .i64 0, NILV, NILV]
          bif (pre_span_Step [.bool (tru (x4.getD 1 undef)), .int .i64 (num (x4.getD 3 undef)), .int .i64 (num (x4.getD 4 undef)), .int .u16 (num (x4.getD 2 undef)), (x4.getD 6 undef), (x4.getD 7 undef), (x4.getD 8 undef)]) then
            (bif (pre_span_Result [(x4.getD 7 undef), (x4.getD 8 undef), .int .u16 (num (x4.getD 2 undef))]) then
              (let x5 := F_law16_awake
              bif (!x5) then
                (false)
              else
                (let x6 := F_span_Step (tru (x4.getD 1 undef)) (num (x4.getD 3 undef)) (num (x4.getD 4 undef)) (num (x4.getD 2 undef)) (x4.getD 6 undef) (x4.getD 7 undef) (x4.getD 8 undef)
                bif (!x6.2) then
                  (false)
                else
                  (let x7 := F_span_Result (x4.getD 7 undef) (x4.getD 8 undef) (num (x4.getD 2 undef))
                  bif (!x7.2) then
                    (false)
                  else
                    (bif ((LN x6.1) != (num (x4.getD 5 undef))) then
                      (false)
                    else
                      (bif ((LN x7.1) != (num (x4.getD 5 undef))) then
                        (false)
                      else
                        (bif (pre_law16_SpanStepIsPixelByPixel_21 [.bool (tru (x4.getD 1 undef)), .int .u16 (num (x4.getD 2 undef)), .int .i64 (num (x4.getD 3 undef)), .int .i64 (num (x4.getD 4 undef)), .int .i64 (num (x4.getD 5 undef)), (x4.getD 6 undef), (x4.getD 7 undef), (x4.getD 8 undef), x6.1, x7.1, .int .i64 0]) then
                          (let x8 := LF_law16_SpanStepIsPixelByPixel_21 [.bool (tru (x4.getD 1 undef)), .int .u16 (num (x4.getD 2 undef)), .int .i64 (num (x4.getD 3 undef)), .int .i64 (num (x4.getD 4 undef)), .int .i64 (num (x4.getD 5 undef)), (x4.getD 6 undef), (x4.getD 7 undef), (x4.getD 8 undef), x6.1, x7.1, .int .i64 0]
                          bif (IXT x8 0) then
                            ((tru (x8.getD 1 undef)))
                          else
                            (true))
                        else
                          ((tru undef))))))))
            else
              ((tru undef)))
          else
            ((tru undef)))
        else
          ((tru undef)))
      else
        ((tru undef)))
    else
      (let x9 := F_gen_Mod p8 8
      let x10 := F_gen_Max p9
      bif (pre_gen_Pixels [.int .i64 p3, p4, .int .i64 x9, .int .u16 x10]) then
        (let x11 := F_gen_Mod p1 12
        let x12 := F_gen_Mod p2 12
        let x13 := F_gen_Pixels p3 p4 x9 x10
        bif (pre_law16_SpanStepIsPixelByPixel_8 [.bool p0, p5, p6, p7, .int .u16 x10, .int .i64 (IntKind.i64.wrap (1 + x11)), .int .i64 (IntKind.i64.wrap (1 + x12)), .int .i64 x9, x13, .int .i64 0, NILV, NILV]) then
          (let x14 := LF_law16_SpanStepIsPixelByPixel_8 [.bool p0, p5, p6, p7, .int .u16 x10, .int .i64 (IntKind.i64.wrap (1 + x11)), .int .i64 (IntKind.i64.wrap (1 + x12)), .int .i64 x9, x13, .int .i64 0, NILV, NILV]
          bif (pre_span_Step [.bool (tru (x14.getD 1 undef)), .int .i64 (num (x14.getD 3 undef)), .int .i64 (num (x14.getD 4 undef)), .int .u16 (num (x14.getD 2 undef)), (x14.getD 6 undef), (x14.getD 7 undef), (x14.getD 8 undef)]) then
            (bif (pre_span_Result [(x14.getD 7 undef), (x14.getD 8 undef), .int .u16 (num (x14.getD 2 undef))]) then
              (let x15 := F_law16_awake
              bif (!x15) then
                (false)
              else
                (let x16 := F_span_Step (tru (x14.getD 1 undef)) (num (x14.getD 3 undef)) (num (x14.getD 4 undef)) (num (x14.getD 2 undef)) (x14.getD 6 undef) (x14.getD 7 undef) (x14.getD 8 undef)
                bif (!x16.2) then
                  (false)
                else
                  (let x17 := F_span_Result (x14.getD 7 undef) (x14.getD 8 undef) (num (x14.getD 2 undef))
                  bif (!x17.2) then
                    (false)
                  else
                    (bif ((LN x16.1) != (num (x14.getD 5 undef))) then
                      (false)
                    else
                      (bif ((LN x17.1) != (num (x14.getD 5 undef))) then
                        (false)
                      else
                        (bif (pre_law16_SpanStepIsPixelByPixel_21 [.bool (tru (x14.getD 1 undef)), .int .u16 (num (x14.getD 2 undef)), .int .i64 (num (x14.getD 3 undef)), .int .i64 (num (x14.getD 4 undef)), .int .i64 (num (x14.getD 5 undef)), (x14.getD 6 undef), (x14.getD 7 undef), (x14.getD 8 undef), x16.1, x17.1, .int .i64 0]) then
                          (let x18 := LF_law16_SpanStepIsPixelByPixel_21 [.bool (tru (x14.getD 1 undef)), .int .u16 (num (x14.getD 2 undef)), .int .i64 (num (x14.getD 3 undef)), .int .i64 (num (x14.getD 4 undef)), .int .i64 (num (x14.getD 5 undef)), (x14.getD 6 undef), (x14.getD 7 undef), (x14.getD 8 undef), x16.1, x17.1, .int .i64 0]
                          bif (IXT x18 0) then
                            ((tru (x18.getD 1 undef)))
                          else
                            (true))
                        else
                          ((tru undef))))))))
            else
              ((tru undef)))
          else
            ((tru undef)))
        else
          ((tru undef)))
      else
        ((tru undef))) :=
  spellV (L := L_law16_SpanStepIsPixelByPixel) (fun l => tru ((l).getD 0 undef)) (evFM ⟨[C_span_Result, C_gen_Pixels, C_span_Step], [LC_law16_SpanStepIsPixelByPixel_8, LC_law16_SpanStepIsPixelByPixel_21]⟩ Tryd.prog [S_gen_Mod, S_gen_Max, S_gen_Back, S_gen_Accum, S_group_Step, S_group_Result, S_gen_At, S_law16_awake] 1000 6 (inL A_law16_SpanStepIsPixelByPixel [.bool p0, .int .i64 p1, .int .i64 p2, .int .i64 p3, p4, p5, p6, p7, .int .i64 p8, .int .i64 p9]) R_law16_SpanStepIsPixelByPixel) (L_law16_SpanStepIsPixelByPixel_is _) (by kernel_rfl)
end Go.Proofs.YtfjhhadmncjdiaaDoor
