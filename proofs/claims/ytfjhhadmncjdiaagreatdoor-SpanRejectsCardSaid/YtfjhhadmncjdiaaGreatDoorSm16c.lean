/- Chapter 16's rows: what their loops tell. Printed by a program (gen/Gen2.lean) but for the loops' proofs; what each function does is told by the evaluator, and the kernel checks it. No condition. -/
import Derived.Test.YtfjhhadmncjdiaaGreatDoorSm16b
import Derived.KernelRfl
import Derived.Shelf.Spec.TrailingZeros
import Derived.Laws.Bits64b
namespace Go.Proofs.YtfjhhadmncjdiaaGreatDoor
set_option maxRecDepth 100000
open Go.RowKit

/-! compositor/span.each -/
def A_span_each_C : List PS := [.c (.l [.i .u16, .i .u16, .i .u16, .i .u16, .i .u16]), .c (.l [.i .u16, .i .u16, .i .u16, .i .u16, .i .u16]), .c (.f 19 [.q [.i .i64], .q [.i .i64], .q [.i .u16]])]
def R_span_each_C : RS := .tup [.c (.l [.i .u16, .i .u16, .i .u16, .i .u16, .i .u16]), .c (.b)]
def head_span_each_C_3 : Shp := ⟨[.p (.c (.h (.l [.i .u16, .i .u16, .i .u16, .i .u16, .i .u16]))), .p (.c (.h (.l [.i .u16, .i .u16, .i .u16, .i .u16, .i .u16]))), .p (.c (.h (.f 19 [.q [.i .i64], .q [.i .i64], .q [.i .u16]]))), .any, .any, .any, .any, .any, .p (.c (.ar 0 [.i .u16, .i .u16, .i .u16, .i .u16, .i .u16] 28)), .any, .any, .any, .any, .any, .any, .any, .p (.c (.h (.i .i64))), .p (.c (.h (.i .i64))), .any, .any, .any, .any, .any, .any, .any, .any, .any, .any, .any, .any, .any, .any, .any, .any, .any, .any, .any, .any, .any, .any, .any, .any, .any, .any, .any, .any, .any, .any, .any, .any, .any, .any, .any, .any, .any, .any, .any, .any, .any, .any, .any, .any, .any, .any, .any, .any, .any, .any, .any, .any, .any, .any, .any, .any, .any], [(0, ⟨[], 28, true, some [.i .u16, .i .u16, .i .u16, .i .u16, .i .u16]⟩)]⟩
def outs_span_each_C_3 : List (Xt × Shp × Nat) := [(.ret, ⟨[.any, .any, .any, .any, .any, .any, .p (.c (.ar 0 [.i .u16, .i .u16, .i .u16, .i .u16, .i .u16] 28)), .p (.c (.h (.b))), .any, .any, .any, .any, .any, .any, .any, .any, .any, .any, .any, .any, .any, .any, .any, .any, .any, .any, .any, .any, .any, .any, .any, .any, .any, .any, .any, .any, .any, .any, .any, .any, .any, .any, .any, .any, .any, .any, .any, .any, .any, .any, .any, .any, .any, .any, .any, .any, .any, .any, .any, .any, .any, .any, .any, .any, .any, .any, .any, .any, .any, .any, .any, .any, .any, .any, .any], [(0, ⟨[], 28, true, some [.i .u16, .i .u16, .i .u16, .i .u16, .i .u16]⟩)]⟩, 1), (.exit 0, ⟨[.any, .any, .any, .any, .any, .any, .any, .any, .p (.c (.ar 0 [.i .u16, .i .u16, .i .u16, .i .u16, .i .u16] 28)), .any, .any, .any, .any, .any, .any, .any, .any, .any, .any, .any, .any, .any, .any, .any, .any, .any, .any, .any, .any, .any, .any, .any, .any, .any, .any, .any, .any, .any, .any, .any, .any, .any, .any, .any, .any, .any, .any, .any, .any, .any, .any, .any, .any, .any, .any, .any, .any, .any, .any, .any, .any, .any, .any, .any, .any, .any, .any, .any, .any, .any, .any, .any, .any, .any, .any], [(0, ⟨[], 28, true, some [.i .u16, .i .u16, .i .u16, .i .u16, .i .u16]⟩)]⟩, 1)]
noncomputable def OUT_span_each_C_3 (p0 : Value) (p1 : Value) (p2 : Value) (p3 : Int) (p4 : Int) (p5 : Value) : List Value :=
    bif (decide (p4 < p3)) then
      (bif (decide (p4 > 0)) then
        (bif (INB p0 p4) then
          (bif (INB p0 (IntKind.i64.wrap (p4 - 1))) then
            (bif ((((num (CV (IX p0 p4) 0)) == (num (CV (IX p0 (IntKind.i64.wrap (p4 - 1))) 0))) && (((num (CV (IX p0 p4) 1)) == (num (CV (IX p0 (IntKind.i64.wrap (p4 - 1))) 1))) && ((num (CV (IX p0 p4) 2)) == (num (CV (IX p0 (IntKind.i64.wrap (p4 - 1))) 2))))) && (((num (CV (IX p0 p4) 3)) == (num (CV (IX p0 (IntKind.i64.wrap (p4 - 1))) 3))) && ((num (CV (IX p0 p4) 4)) == (num (CV (IX p0 (IntKind.i64.wrap (p4 - 1))) 4))))) then
              (bif (INB p1 p4) then
                (bif (INB p1 (IntKind.i64.wrap (p4 - 1))) then
                  (bif ((((num (CV (IX p1 p4) 0)) == (num (CV (IX p1 (IntKind.i64.wrap (p4 - 1))) 0))) && (((num (CV (IX p1 p4) 1)) == (num (CV (IX p1 (IntKind.i64.wrap (p4 - 1))) 1))) && ((num (CV (IX p1 p4) 2)) == (num (CV (IX p1 (IntKind.i64.wrap (p4 - 1))) 2))))) && (((num (CV (IX p1 p4) 3)) == (num (CV (IX p1 (IntKind.i64.wrap (p4 - 1))) 3))) && ((num (CV (IX p1 p4) 4)) == (num (CV (IX p1 (IntKind.i64.wrap (p4 - 1))) 4))))) then
                    (bif (INB p5 (IntKind.i64.wrap (p4 - 1))) then
                      (bif (RO 10 (SN p5 [.int .u16 (num (CV (IX p5 (IntKind.i64.wrap (p4 - 1))) 0)), .int .u16 (num (CV (IX p5 (IntKind.i64.wrap (p4 - 1))) 1)), .int .u16 (num (CV (IX p5 (IntKind.i64.wrap (p4 - 1))) 2)), .int .u16 (num (CV (IX p5 (IntKind.i64.wrap (p4 - 1))) 3)), .int .u16 (num (CV (IX p5 (IntKind.i64.wrap (p4 - 1))) 4))])) then
                        ([.int .i64 (-1), p0, p1, (PK [(CV p2 0), (CV p2 1), (CV p2 2)]), .int .i64 p3, .int .i64 (IntKind.i64.wrap (p4 + 1)), (SN p5 [.int .u16 (num (CV (IX p5 (IntKind.i64.wrap (p4 - 1))) 0)), .int .u16 (num (CV (IX p5 (IntKind.i64.wrap (p4 - 1))) 1)), .int .u16 (num (CV (IX p5 (IntKind.i64.wrap (p4 - 1))) 2)), .int .u16 (num (CV (IX p5 (IntKind.i64.wrap (p4 - 1))) 3)), .int .u16 (num (CV (IX p5 (IntKind.i64.wrap (p4 - 1))) 4))])])
                      else
                        ([]))
                    else
                      ([]))
                  else
                    (bif (INB p0 p4) then
                      (bif (INB p1 p4) then
                        (let x0 := F_span_Composite_1 (num (CV (IX p0 p4) 0)) (num (CV (IX p0 p4) 1)) (num (CV (IX p0 p4) 2)) (num (CV (IX p0 p4) 3)) (num (CV (IX p0 p4) 4)) (num (CV (IX p1 p4) 0)) (num (CV (IX p1 p4) 1)) (num (CV (IX p1 p4) 2)) (num (CV (IX p1 p4) 3)) (num (CV (IX p1 p4) 4)) (CV p2 0) (CV p2 1) (CV p2 2)
                        bif (!x0.2.2.2.2.2) then
                          ([.int .i64 0, .bool false, NILV])
                        else
                          (bif (RO 10 (SN p5 [.int .u16 x0.1, .int .u16 x0.2.1, .int .u16 x0.2.2.1, .int .u16 x0.2.2.2.1, .int .u16 x0.2.2.2.2.1])) then
                            ([.int .i64 (-1), p0, p1, (PK [(CV p2 0), (CV p2 1), (CV p2 2)]), .int .i64 p3, .int .i64 (IntKind.i64.wrap (p4 + 1)), (SN p5 [.int .u16 x0.1, .int .u16 x0.2.1, .int .u16 x0.2.2.1, .int .u16 x0.2.2.2.1, .int .u16 x0.2.2.2.2.1])])
                          else
                            ([])))
                      else
                        ([]))
                    else
                      ([])))
                else
                  ([]))
              else
                ([]))
            else
              (bif (INB p0 p4) then
                (bif (INB p1 p4) then
                  (let x1 := F_span_Composite_1 (num (CV (IX p0 p4) 0)) (num (CV (IX p0 p4) 1)) (num (CV (IX p0 p4) 2)) (num (CV (IX p0 p4) 3)) (num (CV (IX p0 p4) 4)) (num (CV (IX p1 p4) 0)) (num (CV (IX p1 p4) 1)) (num (CV (IX p1 p4) 2)) (num (CV (IX p1 p4) 3)) (num (CV (IX p1 p4) 4)) (CV p2 0) (CV p2 1) (CV p2 2)
                  bif (!x1.2.2.2.2.2) then
                    ([.int .i64 0, .bool false, NILV])
                  else
                    (bif (RO 10 (SN p5 [.int .u16 x1.1, .int .u16 x1.2.1, .int .u16 x1.2.2.1, .int .u16 x1.2.2.2.1, .int .u16 x1.2.2.2.2.1])) then
                      ([.int .i64 (-1), p0, p1, (PK [(CV p2 0), (CV p2 1), (CV p2 2)]), .int .i64 p3, .int .i64 (IntKind.i64.wrap (p4 + 1)), (SN p5 [.int .u16 x1.1, .int .u16 x1.2.1, .int .u16 x1.2.2.1, .int .u16 x1.2.2.2.1, .int .u16 x1.2.2.2.2.1])])
                    else
                      ([])))
                else
                  ([]))
              else
                ([])))
          else
            ([]))
        else
          ([]))
      else
        (bif (INB p0 p4) then
          (bif (INB p1 p4) then
            (let x2 := F_span_Composite_1 (num (CV (IX p0 p4) 0)) (num (CV (IX p0 p4) 1)) (num (CV (IX p0 p4) 2)) (num (CV (IX p0 p4) 3)) (num (CV (IX p0 p4) 4)) (num (CV (IX p1 p4) 0)) (num (CV (IX p1 p4) 1)) (num (CV (IX p1 p4) 2)) (num (CV (IX p1 p4) 3)) (num (CV (IX p1 p4) 4)) (CV p2 0) (CV p2 1) (CV p2 2)
            bif (!x2.2.2.2.2.2) then
              ([.int .i64 0, .bool false, NILV])
            else
              (bif (RO 10 (SN p5 [.int .u16 x2.1, .int .u16 x2.2.1, .int .u16 x2.2.2.1, .int .u16 x2.2.2.2.1, .int .u16 x2.2.2.2.2.1])) then
                ([.int .i64 (-1), p0, p1, (PK [(CV p2 0), (CV p2 1), (CV p2 2)]), .int .i64 p3, .int .i64 (IntKind.i64.wrap (p4 + 1)), (SN p5 [.int .u16 x2.1, .int .u16 x2.2.1, .int .u16 x2.2.2.1, .int .u16 x2.2.2.2.1, .int .u16 x2.2.2.2.2.1])])
              else
                ([])))
          else
            ([]))
        else
          ([])))
    else
      ([.int .i64 1, p5])
noncomputable def OL_span_each_C_3 (xs : List Value) : List Value := OUT_span_each_C_3 (xs.getD 0 undef) (xs.getD 1 undef) (xs.getD 2 undef) (num (xs.getD 3 undef)) (num (xs.getD 4 undef)) (xs.getD 5 undef)
noncomputable def LF_span_each_C_3 : List Value → List Value := LFof OL_span_each_C_3
def pre_span_each_C_3 (xs : List Value) : Bool := decide ((num (xs.getD 3 undef)) = LN (xs.getD 0 undef)) && decide (LN (xs.getD 1 undef) = LN (xs.getD 0 undef)) && decide (0 ≤ (num (xs.getD 4 undef))) && decide ((num (xs.getD 4 undef)) ≤ (num (xs.getD 3 undef))) && decide (LN (xs.getD 5 undef) = (num (xs.getD 4 undef))) && decide ((num (xs.getD 3 undef)) ≤ 1000)
noncomputable def LC_span_each_C_3 : LoopC := ⟨18, 3, LF_span_each_C_3, pre_span_each_C_3, 1, head_span_each_C_3, outs_span_each_C_3⟩
theorem LF_span_each_C_3_go (p0 : Value) (p1 : Value) (p2 : Value) (p3 : Int) (p4 : Int) (p5 : Value) : LF_span_each_C_3 [p0, p1, p2, .int .i64 p3, .int .i64 p4, p5] = goOn LF_span_each_C_3 (OUT_span_each_C_3 p0 p1 p2 p3 p4 p5) := LFof_eq _ _
theorem okBL_span_each_C_3 (p0 : Value) (p1 : Value) (p2 : Value) (p3 : Int) (p4 : Int) (p5 : Value) : (evL ⟨[], []⟩ Tryz.prog [S_span_Composite_1] 1000 LC_span_each_C_3 [p0, p1, p2, .int .i64 p3, .int .i64 p4, p5]).ok =
    bif (decide (p4 < p3)) then
      (bif (decide (p4 > 0)) then
        (bif (INB p0 p4) then
          (bif (INB p0 (IntKind.i64.wrap (p4 - 1))) then
            (bif ((((num (CV (IX p0 p4) 0)) == (num (CV (IX p0 (IntKind.i64.wrap (p4 - 1))) 0))) && (((num (CV (IX p0 p4) 1)) == (num (CV (IX p0 (IntKind.i64.wrap (p4 - 1))) 1))) && ((num (CV (IX p0 p4) 2)) == (num (CV (IX p0 (IntKind.i64.wrap (p4 - 1))) 2))))) && (((num (CV (IX p0 p4) 3)) == (num (CV (IX p0 (IntKind.i64.wrap (p4 - 1))) 3))) && ((num (CV (IX p0 p4) 4)) == (num (CV (IX p0 (IntKind.i64.wrap (p4 - 1))) 4))))) then
              (bif (INB p1 p4) then
                (bif (INB p1 (IntKind.i64.wrap (p4 - 1))) then
                  (bif ((((num (CV (IX p1 p4) 0)) == (num (CV (IX p1 (IntKind.i64.wrap (p4 - 1))) 0))) && (((num (CV (IX p1 p4) 1)) == (num (CV (IX p1 (IntKind.i64.wrap (p4 - 1))) 1))) && ((num (CV (IX p1 p4) 2)) == (num (CV (IX p1 (IntKind.i64.wrap (p4 - 1))) 2))))) && (((num (CV (IX p1 p4) 3)) == (num (CV (IX p1 (IntKind.i64.wrap (p4 - 1))) 3))) && ((num (CV (IX p1 p4) 4)) == (num (CV (IX p1 (IntKind.i64.wrap (p4 - 1))) 4))))) then
                    (bif (INB p5 (IntKind.i64.wrap (p4 - 1))) then
                      (bif (RO 10 (SN p5 [.int .u16 (num (CV (IX p5 (IntKind.i64.wrap (p4 - 1))) 0)), .int .u16 (num (CV (IX p5 (IntKind.i64.wrap (p4 - 1))) 1)), .int .u16 (num (CV (IX p5 (IntKind.i64.wrap (p4 - 1))) 2)), .int .u16 (num (CV (IX p5 (IntKind.i64.wrap (p4 - 1))) 3)), .int .u16 (num (CV (IX p5 (IntKind.i64.wrap (p4 - 1))) 4))])) then
                        (true)
                      else
                        (false))
                    else
                      (false))
                  else
                    (bif (INB p0 p4) then
                      (bif (INB p1 p4) then
                        (let x0 := F_span_Composite_1 (num (CV (IX p0 p4) 0)) (num (CV (IX p0 p4) 1)) (num (CV (IX p0 p4) 2)) (num (CV (IX p0 p4) 3)) (num (CV (IX p0 p4) 4)) (num (CV (IX p1 p4) 0)) (num (CV (IX p1 p4) 1)) (num (CV (IX p1 p4) 2)) (num (CV (IX p1 p4) 3)) (num (CV (IX p1 p4) 4)) (CV p2 0) (CV p2 1) (CV p2 2)
                        bif (!x0.2.2.2.2.2) then
                          (true)
                        else
                          (bif (RO 10 (SN p5 [.int .u16 x0.1, .int .u16 x0.2.1, .int .u16 x0.2.2.1, .int .u16 x0.2.2.2.1, .int .u16 x0.2.2.2.2.1])) then
                            (true)
                          else
                            (false)))
                      else
                        (false))
                    else
                      (false)))
                else
                  (false))
              else
                (false))
            else
              (bif (INB p0 p4) then
                (bif (INB p1 p4) then
                  (let x1 := F_span_Composite_1 (num (CV (IX p0 p4) 0)) (num (CV (IX p0 p4) 1)) (num (CV (IX p0 p4) 2)) (num (CV (IX p0 p4) 3)) (num (CV (IX p0 p4) 4)) (num (CV (IX p1 p4) 0)) (num (CV (IX p1 p4) 1)) (num (CV (IX p1 p4) 2)) (num (CV (IX p1 p4) 3)) (num (CV (IX p1 p4) 4)) (CV p2 0) (CV p2 1) (CV p2 2)
                  bif (!x1.2.2.2.2.2) then
                    (true)
                  else
                    (bif (RO 10 (SN p5 [.int .u16 x1.1, .int .u16 x1.2.1, .int .u16 x1.2.2.1, .int .u16 x1.2.2.2.1, .int .u16 x1.2.2.2.2.1])) then
                      (true)
                    else
                      (false)))
                else
                  (false))
              else
                (false)))
          else
            (false))
        else
          (false))
      else
        (bif (INB p0 p4) then
          (bif (INB p1 p4) then
            (let x2 := F_span_Composite_1 (num (CV (IX p0 p4) 0)) (num (CV (IX p0 p4) 1)) (num (CV (IX p0 p4) 2)) (num (CV (IX p0 p4) 3)) (num (CV (IX p0 p4) 4)) (num (CV (IX p1 p4) 0)) (num (CV (IX p1 p4) 1)) (num (CV (IX p1 p4) 2)) (num (CV (IX p1 p4) 3)) (num (CV (IX p1 p4) 4)) (CV p2 0) (CV p2 1) (CV p2 2)
            bif (!x2.2.2.2.2.2) then
              (true)
            else
              (bif (RO 10 (SN p5 [.int .u16 x2.1, .int .u16 x2.2.1, .int .u16 x2.2.2.1, .int .u16 x2.2.2.2.1, .int .u16 x2.2.2.2.2.1])) then
                (true)
              else
                (false)))
          else
            (false))
        else
          (false)))
    else
      (true) := (okR_eq _).trans (by kernel_rfl)
theorem step_span_each_C_3 (p0 : Value) (p1 : Value) (p2 : Value) (p3 : Int) (p4 : Int) (p5 : Value) : (evL ⟨[], []⟩ Tryz.prog [S_span_Composite_1] 1000 LC_span_each_C_3 [p0, p1, p2, .int .i64 p3, .int .i64 p4, p5]).outL = OUT_span_each_C_3 p0 p1 p2 p3 p4 p5 := (fold_eq (fun l => l) _).trans (by kernel_rfl)
theorem one_span_each_C_3 : (loopsBy Tryz.prog 18 3).length = 1 := by kernel_rfl
theorem env_span_each_C_3 : EnvOK Tryz.prog InvN ⟨[], []⟩ ∧ AllOK Tryz.prog InvN [S_span_Composite_1] := ⟨⟨allC_nil, allL_nil⟩, (allOK_cons ok_span_Composite_1 allOK_nil)⟩
theorem lp_span_each_C_3 (meas : List Value → Nat) (h : ∀ p0 p1 p2 p3 p4 p5, inKind (.l [.i .u16, .i .u16, .i .u16, .i .u16, .i .u16]) p0 → inKind (.l [.i .u16, .i .u16, .i .u16, .i .u16, .i .u16]) p1 → inKind (.f 19 [.q [.i .i64], .q [.i .i64], .q [.i .u16]]) p2 → IntKind.i64.min ≤ p3 → p3 ≤ IntKind.i64.max → IntKind.i64.min ≤ p4 → p4 ≤ IntKind.i64.max → inKind (.l [.i .u16, .i .u16, .i .u16, .i .u16, .i .u16]) p5 → pre_span_each_C_3 [p0, p1, p2, .int .i64 p3, .int .i64 p4, p5] = true → (evL ⟨[], []⟩ Tryz.prog [S_span_Composite_1] 1000 LC_span_each_C_3 [p0, p1, p2, .int .i64 p3, .int .i64 p4, p5]).ok = true ∧ okO pre_span_each_C_3 meas (meas [p0, p1, p2, .int .i64 p3, .int .i64 p4, p5]) (OUT_span_each_C_3 p0 p1 p2 p3 p4 p5)) : LoopTrue Tryz.prog InvN LC_span_each_C_3 := loop_lf env_span_each_C_3 1000 LC_span_each_C_3 one_span_each_C_3 meas OL_span_each_C_3 rfl (fun xs hk hp => by
  have hk : KindsL [.l [.i .u16, .i .u16, .i .u16, .i .u16, .i .u16], .l [.i .u16, .i .u16, .i .u16, .i .u16, .i .u16], .f 19 [.q [.i .i64], .q [.i .i64], .q [.i .u16]], .i .i64, .i .i64, .l [.i .u16, .i .u16, .i .u16, .i .u16, .i .u16]] xs := hk
  obtain ⟨p0, _, rfl, p0k, p1, _, rfl, p1k, p2, _, rfl, p2k, _, _, rfl, ⟨p3, rfl, p3lo, p3hi⟩, _, _, rfl, ⟨p4, rfl, p4lo, p4hi⟩, p5, _, rfl, p5k, rfl⟩ := hk
  have h := h p0 p1 p2 p3 p4 p5 p0k p1k p2k p3lo p3hi p4lo p4hi p5k hp
  exact ⟨h.1, step_span_each_C_3 p0 p1 p2 p3 p4 p5, h.2⟩)
theorem ok_span_each_C_3 : LoopTrue Tryz.prog InvN LC_span_each_C_3 := lp_span_each_C_3 (fun xs => ((num (xs.getD 3 undef)) - (num (xs.getD 4 undef))).toNat) (by
  intro p0 p1 p2 p3 p4 p5 p0k p1k p2k _ _ _ _ p5k hp
  have hp : (decide (p3 = LN p0) && decide (LN p1 = LN p0) && decide (0 ≤ p4) && decide (p4 ≤ p3) && decide (LN p5 = p4) && decide (p3 ≤ 1000)) = true := hp
  simp only [Bool.and_eq_true, decide_eq_true_eq] at hp
  obtain ⟨⟨⟨⟨⟨h1, h2⟩, h3⟩, h4⟩, h5⟩, h6⟩ := hp
  have nx : p4 < p3 → ∀ cs, okO pre_span_each_C_3 (fun xs => ((num (xs.getD 3 undef)) - (num (xs.getD 4 undef))).toNat) (p3 - p4).toNat [.int .i64 (-1), p0, p1, (PK [(CV p2 0), (CV p2 1), (CV p2 2)]), .int .i64 p3, .int .i64 (IntKind.i64.wrap (p4 + 1)), SN p5 cs] := fun h cs => okO_next (by
    show (decide (p3 = LN p0) && decide (LN p1 = LN p0) && decide (0 ≤ IntKind.i64.wrap (p4 + 1)) && decide (IntKind.i64.wrap (p4 + 1) ≤ p3) && decide (LN (SN p5 cs) = IntKind.i64.wrap (p4 + 1)) && decide (p3 ≤ 1000)) = true
    rw [i64_in (by omega) (by omega)]
    simp only [LN_SN, Bool.and_eq_true, decide_eq_true_eq]
    omega) (by
    show (p3 - IntKind.i64.wrap (p4 + 1)).toNat < (p3 - p4).toNat
    rw [i64_in (by omega) (by omega)]
    omega)
  have ro : p4 < p3 → ∀ cs, RO 10 (SN p5 cs) = true := fun h cs => RO_of (n := 1000) (by rw [LN_SN]; omega) (by decide) (by decide)
  rw [okBL_span_each_C_3]
  refine ⟨bif_ok (fun h => ?_) (fun _ => rfl), ?_⟩
  · have h : p4 < p3 := of_decide_eq_true h
    have g0 : INB p0 p4 = true := INB_of h3 (by omega)
    have g1 : INB p1 p4 = true := INB_of h3 (by omega)
    by_cases hq : p4 > 0
    · have hd := decide_eq_true hq
      have k0 : INB p0 (IntKind.i64.wrap (p4 - 1)) = true := by rw [i64_in (by omega) (by omega)]; exact INB_of (by omega) (by omega)
      have k1 : INB p1 (IntKind.i64.wrap (p4 - 1)) = true := by rw [i64_in (by omega) (by omega)]; exact INB_of (by omega) (by omega)
      have k2 : INB p5 (IntKind.i64.wrap (p4 - 1)) = true := by rw [i64_in (by omega) (by omega)]; exact INB_of (by omega) (by omega)
      simp only [g0, g1, k0, k1, k2, ro h, hd, cond_true, Bool.cond_self]
      try (repeat' (first | rfl | refine bif_ok (fun _ => ?_) (fun _ => ?_)))
    · have hd := decide_eq_false hq
      simp only [g0, g1, ro h, hd, cond_true, cond_false, Bool.cond_self]
      try (repeat' (first | rfl | refine bif_ok (fun _ => ?_) (fun _ => ?_)))
  · unfold OUT_span_each_C_3
    refine okO_bif (fun h => ?_) (fun _ => okO_exit 1)
    have h : p4 < p3 := of_decide_eq_true h
    have g0 : INB p0 p4 = true := INB_of h3 (by omega)
    have g1 : INB p1 p4 = true := INB_of h3 (by omega)
    by_cases hq : p4 > 0
    · have hd := decide_eq_true hq
      have k0 : INB p0 (IntKind.i64.wrap (p4 - 1)) = true := by rw [i64_in (by omega) (by omega)]; exact INB_of (by omega) (by omega)
      have k1 : INB p1 (IntKind.i64.wrap (p4 - 1)) = true := by rw [i64_in (by omega) (by omega)]; exact INB_of (by omega) (by omega)
      have k2 : INB p5 (IntKind.i64.wrap (p4 - 1)) = true := by rw [i64_in (by omega) (by omega)]; exact INB_of (by omega) (by omega)
      simp only [g0, g1, k0, k1, k2, ro h, hd, cond_true]
      repeat' (first | refine okO_bif (fun _ => ?_) (fun _ => ?_) | exact okO_exit 0 | exact nx h _)
    · have hd := decide_eq_false hq
      simp only [g0, g1, ro h, hd, cond_true, cond_false]
      repeat' (first | refine okO_bif (fun _ => ?_) (fun _ => ?_) | exact okO_exit 0 | exact nx h _))
noncomputable def L_span_each_C : List Value → List Value := Classical.choose (veil fun vs => (evFM ⟨[], [LC_span_each_C_3]⟩ Tryz.prog [S_span_Composite_1] 1000 18 (inL A_span_each_C vs) R_span_each_C).outL)
theorem L_span_each_C_is (vs : List Value) : L_span_each_C vs = (evFM ⟨[], [LC_span_each_C_3]⟩ Tryz.prog [S_span_Composite_1] 1000 18 (inL A_span_each_C vs) R_span_each_C).outL := Classical.choose_spec (veil fun vs => (evFM ⟨[], [LC_span_each_C_3]⟩ Tryz.prog [S_span_Composite_1] 1000 18 (inL A_span_each_C vs) R_span_each_C).outL) vs
def pre_span_each_C (xs : List Value) : Bool := decide (LN (xs.getD 1 undef) = LN (xs.getD 0 undef)) && decide (LN (xs.getD 0 undef) ≤ 1000)
noncomputable def C_span_each_C : CSum := ⟨18, L_span_each_C, pre_span_each_C, A_span_each_C, R_span_each_C⟩
theorem env_span_each_C : EnvOK Tryz.prog InvN ⟨[], [LC_span_each_C_3]⟩ ∧ AllOK Tryz.prog InvN [S_span_Composite_1] := ⟨⟨allC_nil, (allL_cons ok_span_each_C_3 allL_nil)⟩, (allOK_cons ok_span_Composite_1 allOK_nil)⟩
theorem okG_span_each_C (vs : List Value) : (evFM ⟨[], [LC_span_each_C_3]⟩ Tryz.prog [S_span_Composite_1] 1000 18 (inL A_span_each_C vs) R_span_each_C).goodX R_span_each_C = true := by kernel_rfl
theorem okB_span_each_C (p0 : Value) (p1 : Value) (p2 : Value) : (evFM ⟨[], [LC_span_each_C_3]⟩ Tryz.prog [S_span_Composite_1] 1000 18 (inL A_span_each_C [p0, p1, p2]) R_span_each_C).ok =
    bif (MKB 10 0 (LN p0)) then
      (bif (pre_span_each_C_3 [p0, p1, (PK [(CV p2 0), (CV p2 1), (CV p2 2)]), .int .i64 (LN p0), .int .i64 0, (RP [.int .u16 0, .int .u16 0, .int .u16 0, .int .u16 0, .int .u16 0] 0)]) then
        (true)
      else
        (false))
    else
      (false) := (okR_eq _).trans (by kernel_rfl)
theorem okA_span_each_C (h : ∀ p0 p1 p2 , inKind (.l [.i .u16, .i .u16, .i .u16, .i .u16, .i .u16]) p0 → inKind (.l [.i .u16, .i .u16, .i .u16, .i .u16, .i .u16]) p1 → inKind (.f 19 [.q [.i .i64], .q [.i .i64], .q [.i .u16]]) p2 → pre_span_each_C [p0, p1, p2] = true → (evFM ⟨[], [LC_span_each_C_3]⟩ Tryz.prog [S_span_Composite_1] 1000 18 (inL A_span_each_C [p0, p1, p2]) R_span_each_C).ok = true) : CSumOK Tryz.prog InvN C_span_each_C := csumOK_partV invN_stays env_span_each_C.1 env_span_each_C.2 1000 18 A_span_each_C R_span_each_C L_span_each_C_is pre_span_each_C okG_span_each_C (fun vs hk hp => by
  obtain ⟨p0, _, rfl, p0k, p1, _, rfl, p1k, p2, _, rfl, p2k, rfl⟩ := hk
  exact h p0 p1 p2 p0k p1k p2k hp)
theorem ok_span_each_C : CSumOK Tryz.prog InvN C_span_each_C := okA_span_each_C (by
  intro p0 p1 p2 _ _ _ hp
  have hp : (decide (LN p1 = LN p0) && decide (LN p0 ≤ 1000)) = true := hp
  simp only [Bool.and_eq_true, decide_eq_true_eq] at hp
  have h0 := LN_nonneg p0
  have m : MKB 10 0 (LN p0) = true := by
    simp only [MKB, Bool.and_eq_true, decide_eq_true_eq]
    omega
  have p : pre_span_each_C_3 [p0, p1, (PK [(CV p2 0), (CV p2 1), (CV p2 2)]), .int .i64 (LN p0), .int .i64 0, (RP [.int .u16 0, .int .u16 0, .int .u16 0, .int .u16 0, .int .u16 0] 0)] = true := by
    show (decide (LN p0 = LN p0) && decide (LN p1 = LN p0) && decide ((0 : Int) ≤ 0) && decide (0 ≤ LN p0) && decide (LN (RP [.int .u16 0, .int .u16 0, .int .u16 0, .int .u16 0, .int .u16 0] 0) = 0) && decide (LN p0 ≤ 1000)) = true
    simp only [Bool.and_eq_true, decide_eq_true_eq]
    refine ⟨⟨⟨⟨⟨?_, ?_⟩, ?_⟩, ?_⟩, ?_⟩, ?_⟩ <;> first | trivial | omega | rfl | exact LN_nonneg _
  rw [okB_span_each_C, m, p]
  rfl)
noncomputable def F_span_each_C (p0 : Value) (p1 : Value) (p2 : Value) : Value × Bool := ((L_span_each_C [p0, p1, p2]).getD 0 undef, tru ((L_span_each_C [p0, p1, p2]).getD 1 undef))
theorem F_span_each_C_eq (p0 : Value) (p1 : Value) (p2 : Value) : F_span_each_C p0 p1 p2 =
    bif (MKB 10 0 (LN p0)) then
      (bif (pre_span_each_C_3 [p0, p1, (PK [(CV p2 0), (CV p2 1), (CV p2 2)]), .int .i64 (LN p0), .int .i64 0, (RP [.int .u16 0, .int .u16 0, .int .u16 0, .int .u16 0, .int .u16 0] 0)]) then
        (let x0 := LF_span_each_C_3 [p0, p1, (PK [(CV p2 0), (CV p2 1), (CV p2 2)]), .int .i64 (LN p0), .int .i64 0, (RP [.int .u16 0, .int .u16 0, .int .u16 0, .int .u16 0, .int .u16 0] 0)]
        bif (IXT x0 0) then
          (((x0.getD 2 undef), (tru (x0.getD 1 undef))))
        else
          (((x0.getD 1 undef), true)))
      else
        ((undef, (tru undef))))
    else
      ((undef, (tru undef))) :=
  spellV (L := L_span_each_C) (fun l => ((l).getD 0 undef, tru ((l).getD 1 undef))) (evFM ⟨[], [LC_span_each_C_3]⟩ Tryz.prog [S_span_Composite_1] 1000 18 (inL A_span_each_C [p0, p1, p2]) R_span_each_C) (L_span_each_C_is _) (by kernel_rfl)

/-! compositor/span.Composite -/
def A_span_Composite : List PS := [.c (.i .i64), .c (.i .i64), .c (.i .u16), .c (.l [.i .u16, .i .u16, .i .u16, .i .u16, .i .u16]), .c (.l [.i .u16, .i .u16, .i .u16, .i .u16, .i .u16])]
def R_span_Composite : RS := .tup [.c (.l [.i .u16, .i .u16, .i .u16, .i .u16, .i .u16]), .c (.b)]
noncomputable def L_span_Composite : List Value → List Value := Classical.choose (veil fun vs => (evFM ⟨[C_span_each_C], []⟩ Tryz.prog [S_operator_find, S_span_known, S_span_Classify, S_span_valid, S_span_Composite_1] 1000 7 (inL A_span_Composite vs) R_span_Composite).outL)
theorem L_span_Composite_is (vs : List Value) : L_span_Composite vs = (evFM ⟨[C_span_each_C], []⟩ Tryz.prog [S_operator_find, S_span_known, S_span_Classify, S_span_valid, S_span_Composite_1] 1000 7 (inL A_span_Composite vs) R_span_Composite).outL := Classical.choose_spec (veil fun vs => (evFM ⟨[C_span_each_C], []⟩ Tryz.prog [S_operator_find, S_span_known, S_span_Classify, S_span_valid, S_span_Composite_1] 1000 7 (inL A_span_Composite vs) R_span_Composite).outL) vs
def pre_span_Composite (xs : List Value) : Bool := decide (LN (xs.getD 3 undef) ≤ 1000) && decide (LN (xs.getD 4 undef) ≤ 1000)
noncomputable def C_span_Composite : CSum := ⟨7, L_span_Composite, pre_span_Composite, A_span_Composite, R_span_Composite⟩
theorem env_span_Composite : EnvOK Tryz.prog InvN ⟨[C_span_each_C], []⟩ ∧ AllOK Tryz.prog InvN [S_operator_find, S_span_known, S_span_Classify, S_span_valid, S_span_Composite_1] := ⟨⟨(allC_cons ok_span_each_C allC_nil), allL_nil⟩, (allOK_cons ok_operator_find (allOK_cons ok_span_known (allOK_cons ok_span_Classify (allOK_cons ok_span_valid (allOK_cons ok_span_Composite_1 allOK_nil)))))⟩
theorem okG_span_Composite (vs : List Value) : (evFM ⟨[C_span_each_C], []⟩ Tryz.prog [S_operator_find, S_span_known, S_span_Classify, S_span_valid, S_span_Composite_1] 1000 7 (inL A_span_Composite vs) R_span_Composite).goodX R_span_Composite = true := by kernel_rfl
theorem okB_span_Composite (p0 : Int) (p1 : Int) (p2 : Int) (p3 : Value) (p4 : Value) : (evFM ⟨[C_span_each_C], []⟩ Tryz.prog [S_operator_find, S_span_known, S_span_Classify, S_span_valid, S_span_Composite_1] 1000 7 (inL A_span_Composite [.int .i64 p0, .int .i64 p1, .int .u16 p2, p3, p4]) R_span_Composite).ok =
    bif ((LN p3) != (LN p4)) then
      (true)
    else
      (let x0 := F_span_known p0 p1 p2
      bif x0 then
        (let x1 := F_span_valid p4 p2
        bif x1 then
          (let x2 := F_span_Classify p3 p2
          bif (x2 == 1) then
            (let x3 := F_operator_find p0
            bif x3.2.2.2.2 then
              (bif (x3.2.2.1 == 1) then
                (bif (x3.2.2.2.1 == 2) then
                  (bif (RO 10 (CT NILV p4)) then
                    (true)
                  else
                    (false))
                else
                  (bif (x3.2.2.2.1 == 3) then
                    (bif (RO 10 (CT NILV p4)) then
                      (true)
                    else
                      (false))
                  else
                    (bif (pre_span_each_C [p3, p4, (PK [(PK [.int .i64 p0]), (PK [.int .i64 p1]), (PK [.int .u16 p2])])]) then
                      (true)
                    else
                      (false))))
              else
                (bif (x3.2.2.1 == 3) then
                  (bif (x3.2.2.2.1 == 2) then
                    (bif (RO 10 (CT NILV p4)) then
                      (true)
                    else
                      (false))
                  else
                    (bif (x3.2.2.2.1 == 3) then
                      (bif (RO 10 (CT NILV p4)) then
                        (true)
                      else
                        (false))
                    else
                      (bif (pre_span_each_C [p3, p4, (PK [(PK [.int .i64 p0]), (PK [.int .i64 p1]), (PK [.int .u16 p2])])]) then
                        (true)
                      else
                        (false))))
                else
                  (bif (pre_span_each_C [p3, p4, (PK [(PK [.int .i64 p0]), (PK [.int .i64 p1]), (PK [.int .u16 p2])])]) then
                    (true)
                  else
                    (false))))
            else
              (bif (pre_span_each_C [p3, p4, (PK [(PK [.int .i64 p0]), (PK [.int .i64 p1]), (PK [.int .u16 p2])])]) then
                (true)
              else
                (false)))
          else
            (bif (x2 == 3) then
              (bif (p0 == 4) then
                (bif (p1 == 1) then
                  (bif (RO 10 (CT NILV p3)) then
                    (true)
                  else
                    (false))
                else
                  (bif (pre_span_each_C [p3, p4, (PK [(PK [.int .i64 p0]), (PK [.int .i64 p1]), (PK [.int .u16 p2])])]) then
                    (true)
                  else
                    (false)))
              else
                (bif (pre_span_each_C [p3, p4, (PK [(PK [.int .i64 p0]), (PK [.int .i64 p1]), (PK [.int .u16 p2])])]) then
                  (true)
                else
                  (false)))
            else
              (bif (pre_span_each_C [p3, p4, (PK [(PK [.int .i64 p0]), (PK [.int .i64 p1]), (PK [.int .u16 p2])])]) then
                (true)
              else
                (false))))
        else
          (bif (pre_span_each_C [p3, p4, (PK [(PK [.int .i64 p0]), (PK [.int .i64 p1]), (PK [.int .u16 p2])])]) then
            (true)
          else
            (false)))
      else
        (bif (pre_span_each_C [p3, p4, (PK [(PK [.int .i64 p0]), (PK [.int .i64 p1]), (PK [.int .u16 p2])])]) then
          (true)
        else
          (false))) := (okR_eq _).trans (by kernel_rfl)
theorem okA_span_Composite (h : ∀ p0 p1 p2 p3 p4 , IntKind.i64.min ≤ p0 → p0 ≤ IntKind.i64.max → IntKind.i64.min ≤ p1 → p1 ≤ IntKind.i64.max → IntKind.u16.min ≤ p2 → p2 ≤ IntKind.u16.max → inKind (.l [.i .u16, .i .u16, .i .u16, .i .u16, .i .u16]) p3 → inKind (.l [.i .u16, .i .u16, .i .u16, .i .u16, .i .u16]) p4 → pre_span_Composite [.int .i64 p0, .int .i64 p1, .int .u16 p2, p3, p4] = true → (evFM ⟨[C_span_each_C], []⟩ Tryz.prog [S_operator_find, S_span_known, S_span_Classify, S_span_valid, S_span_Composite_1] 1000 7 (inL A_span_Composite [.int .i64 p0, .int .i64 p1, .int .u16 p2, p3, p4]) R_span_Composite).ok = true) : CSumOK Tryz.prog InvN C_span_Composite := csumOK_partV invN_stays env_span_Composite.1 env_span_Composite.2 1000 7 A_span_Composite R_span_Composite L_span_Composite_is pre_span_Composite okG_span_Composite (fun vs hk hp => by
  obtain ⟨_, _, rfl, ⟨p0, rfl, p0lo, p0hi⟩, _, _, rfl, ⟨p1, rfl, p1lo, p1hi⟩, _, _, rfl, ⟨p2, rfl, p2lo, p2hi⟩, p3, _, rfl, p3k, p4, _, rfl, p4k, rfl⟩ := hk
  exact h p0 p1 p2 p3 p4 p0lo p0hi p1lo p1hi p2lo p2hi p3k p4k hp)
theorem ok_span_Composite : CSumOK Tryz.prog InvN C_span_Composite := okA_span_Composite (by
  intro p0 p1 p2 p3 p4 _ _ _ _ _ _ _ _ hp
  have hp : (decide (LN p3 ≤ 1000) && decide (LN p4 ≤ 1000)) = true := hp
  simp only [Bool.and_eq_true, decide_eq_true_eq] at hp
  rw [okB_span_Composite]
  refine bif_ok (fun _ => rfl) (fun hne => ?_)
  simp only [bne_eq_false_iff_eq] at hne
  have hq : pre_span_each_C [p3, p4, (PK [(PK [.int .i64 p0]), (PK [.int .i64 p1]), (PK [.int .u16 p2])])] = true := by
    show (decide (LN p4 = LN p3) && decide (LN p3 ≤ 1000)) = true
    simp only [Bool.and_eq_true, decide_eq_true_eq]
    omega
  have hr3 : RO 10 (CT NILV p3) = true := RO_of (n := 1000) (by rw [LN_CT, LN_nil]; omega) (by decide) (by decide)
  have hr4 : RO 10 (CT NILV p4) = true := RO_of (n := 1000) (by rw [LN_CT, LN_nil]; omega) (by decide) (by decide)
  simp only [hq, hr3, hr4, cond_true, Bool.cond_self])
noncomputable def F_span_Composite (p0 : Int) (p1 : Int) (p2 : Int) (p3 : Value) (p4 : Value) : Value × Bool := ((L_span_Composite [.int .i64 p0, .int .i64 p1, .int .u16 p2, p3, p4]).getD 0 undef, tru ((L_span_Composite [.int .i64 p0, .int .i64 p1, .int .u16 p2, p3, p4]).getD 1 undef))
theorem F_span_Composite_eq (p0 : Int) (p1 : Int) (p2 : Int) (p3 : Value) (p4 : Value) : F_span_Composite p0 p1 p2 p3 p4 =
    bif ((LN p3) != (LN p4)) then
      ((NILV, false))
    else
      (let x0 := F_span_known p0 p1 p2
      bif x0 then
        (let x1 := F_span_valid p4 p2
        bif x1 then
          (let x2 := F_span_Classify p3 p2
          bif (x2 == 1) then
            (let x3 := F_operator_find p0
            bif x3.2.2.2.2 then
              (bif (x3.2.2.1 == 1) then
                (bif (x3.2.2.2.1 == 2) then
                  (bif (RO 10 (CT NILV p4)) then
                    (((CT NILV p4), true))
                  else
                    ((undef, (tru undef))))
                else
                  (bif (x3.2.2.2.1 == 3) then
                    (bif (RO 10 (CT NILV p4)) then
                      (((CT NILV p4), true))
                    else
                      ((undef, (tru undef))))
                  else
                    (bif (pre_span_each_C [p3, p4, (PK [(PK [.int .i64 p0]), (PK [.int .i64 p1]), (PK [.int .u16 p2])])]) then
                      (let x4 := F_span_each_C p3 p4 (PK [(PK [.int .i64 p0]), (PK [.int .i64 p1]), (PK [.int .u16 p2])])
                      (x4.1, x4.2))
                    else
                      ((undef, (tru undef))))))
              else
                (bif (x3.2.2.1 == 3) then
                  (bif (x3.2.2.2.1 == 2) then
                    (bif (RO 10 (CT NILV p4)) then
                      (((CT NILV p4), true))
                    else
                      ((undef, (tru undef))))
                  else
                    (bif (x3.2.2.2.1 == 3) then
                      (bif (RO 10 (CT NILV p4)) then
                        (((CT NILV p4), true))
                      else
                        ((undef, (tru undef))))
                    else
                      (bif (pre_span_each_C [p3, p4, (PK [(PK [.int .i64 p0]), (PK [.int .i64 p1]), (PK [.int .u16 p2])])]) then
                        (let x5 := F_span_each_C p3 p4 (PK [(PK [.int .i64 p0]), (PK [.int .i64 p1]), (PK [.int .u16 p2])])
                        (x5.1, x5.2))
                      else
                        ((undef, (tru undef))))))
                else
                  (bif (pre_span_each_C [p3, p4, (PK [(PK [.int .i64 p0]), (PK [.int .i64 p1]), (PK [.int .u16 p2])])]) then
                    (let x6 := F_span_each_C p3 p4 (PK [(PK [.int .i64 p0]), (PK [.int .i64 p1]), (PK [.int .u16 p2])])
                    (x6.1, x6.2))
                  else
                    ((undef, (tru undef))))))
            else
              (bif (pre_span_each_C [p3, p4, (PK [(PK [.int .i64 p0]), (PK [.int .i64 p1]), (PK [.int .u16 p2])])]) then
                (let x7 := F_span_each_C p3 p4 (PK [(PK [.int .i64 p0]), (PK [.int .i64 p1]), (PK [.int .u16 p2])])
                (x7.1, x7.2))
              else
                ((undef, (tru undef)))))
          else
            (bif (x2 == 3) then
              (bif (p0 == 4) then
                (bif (p1 == 1) then
                  (bif (RO 10 (CT NILV p3)) then
                    (((CT NILV p3), true))
                  else
                    ((undef, (tru undef))))
                else
                  (bif (pre_span_each_C [p3, p4, (PK [(PK [.int .i64 p0]), (PK [.int .i64 p1]), (PK [.int .u16 p2])])]) then
                    (let x8 := F_span_each_C p3 p4 (PK [(PK [.int .i64 p0]), (PK [.int .i64 p1]), (PK [.int .u16 p2])])
                    (x8.1, x8.2))
                  else
                    ((undef, (tru undef)))))
              else
                (bif (pre_span_each_C [p3, p4, (PK [(PK [.int .i64 p0]), (PK [.int .i64 p1]), (PK [.int .u16 p2])])]) then
                  (let x9 := F_span_each_C p3 p4 (PK [(PK [.int .i64 p0]), (PK [.int .i64 p1]), (PK [.int .u16 p2])])
                  (x9.1, x9.2))
                else
                  ((undef, (tru undef)))))
            else
              (bif (pre_span_each_C [p3, p4, (PK [(PK [.int .i64 p0]), (PK [.int .i64 p1]), (PK [.int .u16 p2])])]) then
                (let x10 := F_span_each_C p3 p4 (PK [(PK [.int .i64 p0]), (PK [.int .i64 p1]), (PK [.int .u16 p2])])
                (x10.1, x10.2))
              else
                ((undef, (tru undef))))))
        else
          (bif (pre_span_each_C [p3, p4, (PK [(PK [.int .i64 p0]), (PK [.int .i64 p1]), (PK [.int .u16 p2])])]) then
            (let x11 := F_span_each_C p3 p4 (PK [(PK [.int .i64 p0]), (PK [.int .i64 p1]), (PK [.int .u16 p2])])
            (x11.1, x11.2))
          else
            ((undef, (tru undef)))))
      else
        (bif (pre_span_each_C [p3, p4, (PK [(PK [.int .i64 p0]), (PK [.int .i64 p1]), (PK [.int .u16 p2])])]) then
          (let x12 := F_span_each_C p3 p4 (PK [(PK [.int .i64 p0]), (PK [.int .i64 p1]), (PK [.int .u16 p2])])
          (x12.1, x12.2))
        else
          ((undef, (tru undef))))) :=
  spellV (L := L_span_Composite) (fun l => ((l).getD 0 undef, tru ((l).getD 1 undef))) (evFM ⟨[C_span_each_C], []⟩ Tryz.prog [S_operator_find, S_span_known, S_span_Classify, S_span_valid, S_span_Composite_1] 1000 7 (inL A_span_Composite [.int .i64 p0, .int .i64 p1, .int .u16 p2, p3, p4]) R_span_Composite) (L_span_Composite_is _) (by kernel_rfl)

/-! compositor/span.Scale -/
def A_span_Scale : List PS := [.c (.l [.i .u16, .i .u16, .i .u16, .i .u16, .i .u16]), .c (.l [.i .u16]), .c (.i .u16), .c (.i .u16)]
def R_span_Scale : RS := .tup [.c (.l [.i .u16, .i .u16, .i .u16, .i .u16, .i .u16]), .c (.b)]
def head_span_Scale_5 : Shp := ⟨[.any, .p (.c (.h (.l [.i .u16]))), .p (.c (.h (.i .u16))), .p (.c (.h (.i .u16))), .any, .any, .any, .any, .any, .any, .p (.c (.ar 0 [.i .u16, .i .u16, .i .u16, .i .u16, .i .u16] 28)), .any, .any, .any, .any, .any, .any, .any, .any, .any, .any, .any, .any, .any, .any, .any, .p (.c (.h (.l [.i .u16, .i .u16, .i .u16, .i .u16, .i .u16]))), .p (.c (.h (.i .i64))), .p (.c (.h (.i .i64))), .any, .any, .any, .any, .any, .any, .any, .any, .any, .any, .any, .any, .any, .any, .any, .any, .any, .any, .any, .any, .any, .any, .any, .any, .any, .any, .any, .any], [(0, ⟨[], 28, true, some [.i .u16, .i .u16, .i .u16, .i .u16, .i .u16]⟩)]⟩
def outs_span_Scale_5 : List (Xt × Shp × Nat) := [(.ret, ⟨[.any, .any, .any, .any, .any, .any, .any, .any, .p (.c (.ar 0 [.i .u16, .i .u16, .i .u16, .i .u16, .i .u16] 28)), .p (.c (.h (.b))), .any, .any, .any, .any, .any, .any, .any, .any, .any, .any, .any, .any, .any, .any, .any, .any, .any, .any, .any, .any, .any, .any, .any, .any, .any, .any, .any, .any, .any, .any, .any, .any, .any, .any, .any, .any, .any, .any, .any, .any, .any, .any, .any, .any, .any, .any, .any], [(0, ⟨[], 28, true, some [.i .u16, .i .u16, .i .u16, .i .u16, .i .u16]⟩)]⟩, 1), (.exit 0, ⟨[.any, .any, .any, .any, .any, .any, .any, .any, .any, .any, .p (.c (.ar 0 [.i .u16, .i .u16, .i .u16, .i .u16, .i .u16] 28)), .any, .any, .any, .any, .any, .any, .any, .any, .any, .any, .any, .any, .any, .any, .any, .any, .any, .any, .any, .any, .any, .any, .any, .any, .any, .any, .any, .any, .any, .any, .any, .any, .any, .any, .any, .any, .any, .any, .any, .any, .any, .any, .any, .any, .any, .any], [(0, ⟨[], 28, true, some [.i .u16, .i .u16, .i .u16, .i .u16, .i .u16]⟩)]⟩, 1)]
noncomputable def OUT_span_Scale_5 (p0 : Value) (p1 : Int) (p2 : Int) (p3 : Value) (p4 : Int) (p5 : Int) (p6 : Value) : List Value :=
    bif (decide (p5 < p4)) then
      (bif (INB p3 p5) then
        (bif (decide ((LN p0) > 0)) then
          (bif (INB p0 p5) then
            (let x0 := F_scale_Both (num (CV (IX p3 p5) 0)) (num (CV (IX p3 p5) 1)) (num (CV (IX p3 p5) 2)) (num (CV (IX p3 p5) 3)) (num (CV (IX p3 p5) 4)) (num (CV (IX p0 p5) 0)) p1 p2
            bif (!x0.2.2.2.2.2) then
              ([.int .i64 0, .bool false, NILV])
            else
              (bif (RO 10 (SN p6 [.int .u16 x0.1, .int .u16 x0.2.1, .int .u16 x0.2.2.1, .int .u16 x0.2.2.2.1, .int .u16 x0.2.2.2.2.1])) then
                ([.int .i64 (-1), p0, .int .u16 p1, .int .u16 p2, p3, .int .i64 p4, .int .i64 (IntKind.i64.wrap (p5 + 1)), (SN p6 [.int .u16 x0.1, .int .u16 x0.2.1, .int .u16 x0.2.2.1, .int .u16 x0.2.2.2.1, .int .u16 x0.2.2.2.2.1])])
              else
                ([])))
          else
            ([]))
        else
          (let x1 := F_scale_Both (num (CV (IX p3 p5) 0)) (num (CV (IX p3 p5) 1)) (num (CV (IX p3 p5) 2)) (num (CV (IX p3 p5) 3)) (num (CV (IX p3 p5) 4)) p2 p1 p2
          bif (!x1.2.2.2.2.2) then
            ([.int .i64 0, .bool false, NILV])
          else
            (bif (RO 10 (SN p6 [.int .u16 x1.1, .int .u16 x1.2.1, .int .u16 x1.2.2.1, .int .u16 x1.2.2.2.1, .int .u16 x1.2.2.2.2.1])) then
              ([.int .i64 (-1), p0, .int .u16 p1, .int .u16 p2, p3, .int .i64 p4, .int .i64 (IntKind.i64.wrap (p5 + 1)), (SN p6 [.int .u16 x1.1, .int .u16 x1.2.1, .int .u16 x1.2.2.1, .int .u16 x1.2.2.2.1, .int .u16 x1.2.2.2.2.1])])
            else
              ([]))))
      else
        ([]))
    else
      ([.int .i64 1, p6])
noncomputable def OL_span_Scale_5 (xs : List Value) : List Value := OUT_span_Scale_5 (xs.getD 0 undef) (num (xs.getD 1 undef)) (num (xs.getD 2 undef)) (xs.getD 3 undef) (num (xs.getD 4 undef)) (num (xs.getD 5 undef)) (xs.getD 6 undef)
noncomputable def LF_span_Scale_5 : List Value → List Value := LFof OL_span_Scale_5
def pre_span_Scale_5 (xs : List Value) : Bool := decide ((num (xs.getD 4 undef)) = LN (xs.getD 3 undef)) && decide (LN (xs.getD 0 undef) = 0 ∨ LN (xs.getD 0 undef) = LN (xs.getD 3 undef)) && decide (0 ≤ (num (xs.getD 5 undef))) && decide ((num (xs.getD 5 undef)) ≤ (num (xs.getD 4 undef))) && decide (LN (xs.getD 6 undef) = (num (xs.getD 5 undef))) && decide ((num (xs.getD 4 undef)) ≤ 1000)
noncomputable def LC_span_Scale_5 : LoopC := ⟨8, 5, LF_span_Scale_5, pre_span_Scale_5, 1, head_span_Scale_5, outs_span_Scale_5⟩
theorem LF_span_Scale_5_go (p0 : Value) (p1 : Int) (p2 : Int) (p3 : Value) (p4 : Int) (p5 : Int) (p6 : Value) : LF_span_Scale_5 [p0, .int .u16 p1, .int .u16 p2, p3, .int .i64 p4, .int .i64 p5, p6] = goOn LF_span_Scale_5 (OUT_span_Scale_5 p0 p1 p2 p3 p4 p5 p6) := LFof_eq _ _
theorem okBL_span_Scale_5 (p0 : Value) (p1 : Int) (p2 : Int) (p3 : Value) (p4 : Int) (p5 : Int) (p6 : Value) : (evL ⟨[], []⟩ Tryz.prog [S_scale_Both] 1000 LC_span_Scale_5 [p0, .int .u16 p1, .int .u16 p2, p3, .int .i64 p4, .int .i64 p5, p6]).ok =
    bif (decide (p5 < p4)) then
      (bif (INB p3 p5) then
        (bif (decide ((LN p0) > 0)) then
          (bif (INB p0 p5) then
            (let x0 := F_scale_Both (num (CV (IX p3 p5) 0)) (num (CV (IX p3 p5) 1)) (num (CV (IX p3 p5) 2)) (num (CV (IX p3 p5) 3)) (num (CV (IX p3 p5) 4)) (num (CV (IX p0 p5) 0)) p1 p2
            bif (!x0.2.2.2.2.2) then
              (true)
            else
              (bif (RO 10 (SN p6 [.int .u16 x0.1, .int .u16 x0.2.1, .int .u16 x0.2.2.1, .int .u16 x0.2.2.2.1, .int .u16 x0.2.2.2.2.1])) then
                (true)
              else
                (false)))
          else
            (false))
        else
          (let x1 := F_scale_Both (num (CV (IX p3 p5) 0)) (num (CV (IX p3 p5) 1)) (num (CV (IX p3 p5) 2)) (num (CV (IX p3 p5) 3)) (num (CV (IX p3 p5) 4)) p2 p1 p2
          bif (!x1.2.2.2.2.2) then
            (true)
          else
            (bif (RO 10 (SN p6 [.int .u16 x1.1, .int .u16 x1.2.1, .int .u16 x1.2.2.1, .int .u16 x1.2.2.2.1, .int .u16 x1.2.2.2.2.1])) then
              (true)
            else
              (false))))
      else
        (false))
    else
      (true) := (okR_eq _).trans (by kernel_rfl)
theorem step_span_Scale_5 (p0 : Value) (p1 : Int) (p2 : Int) (p3 : Value) (p4 : Int) (p5 : Int) (p6 : Value) : (evL ⟨[], []⟩ Tryz.prog [S_scale_Both] 1000 LC_span_Scale_5 [p0, .int .u16 p1, .int .u16 p2, p3, .int .i64 p4, .int .i64 p5, p6]).outL = OUT_span_Scale_5 p0 p1 p2 p3 p4 p5 p6 := (fold_eq (fun l => l) _).trans (by kernel_rfl)
theorem one_span_Scale_5 : (loopsBy Tryz.prog 8 5).length = 1 := by kernel_rfl
theorem env_span_Scale_5 : EnvOK Tryz.prog InvN ⟨[], []⟩ ∧ AllOK Tryz.prog InvN [S_scale_Both] := ⟨⟨allC_nil, allL_nil⟩, (allOK_cons ok_scale_Both allOK_nil)⟩
theorem lp_span_Scale_5 (meas : List Value → Nat) (h : ∀ p0 p1 p2 p3 p4 p5 p6, inKind (.l [.i .u16]) p0 → IntKind.u16.min ≤ p1 → p1 ≤ IntKind.u16.max → IntKind.u16.min ≤ p2 → p2 ≤ IntKind.u16.max → inKind (.l [.i .u16, .i .u16, .i .u16, .i .u16, .i .u16]) p3 → IntKind.i64.min ≤ p4 → p4 ≤ IntKind.i64.max → IntKind.i64.min ≤ p5 → p5 ≤ IntKind.i64.max → inKind (.l [.i .u16, .i .u16, .i .u16, .i .u16, .i .u16]) p6 → pre_span_Scale_5 [p0, .int .u16 p1, .int .u16 p2, p3, .int .i64 p4, .int .i64 p5, p6] = true → (evL ⟨[], []⟩ Tryz.prog [S_scale_Both] 1000 LC_span_Scale_5 [p0, .int .u16 p1, .int .u16 p2, p3, .int .i64 p4, .int .i64 p5, p6]).ok = true ∧ okO pre_span_Scale_5 meas (meas [p0, .int .u16 p1, .int .u16 p2, p3, .int .i64 p4, .int .i64 p5, p6]) (OUT_span_Scale_5 p0 p1 p2 p3 p4 p5 p6)) : LoopTrue Tryz.prog InvN LC_span_Scale_5 := loop_lf env_span_Scale_5 1000 LC_span_Scale_5 one_span_Scale_5 meas OL_span_Scale_5 rfl (fun xs hk hp => by
  have hk : KindsL [.l [.i .u16], .i .u16, .i .u16, .l [.i .u16, .i .u16, .i .u16, .i .u16, .i .u16], .i .i64, .i .i64, .l [.i .u16, .i .u16, .i .u16, .i .u16, .i .u16]] xs := hk
  obtain ⟨p0, _, rfl, p0k, _, _, rfl, ⟨p1, rfl, p1lo, p1hi⟩, _, _, rfl, ⟨p2, rfl, p2lo, p2hi⟩, p3, _, rfl, p3k, _, _, rfl, ⟨p4, rfl, p4lo, p4hi⟩, _, _, rfl, ⟨p5, rfl, p5lo, p5hi⟩, p6, _, rfl, p6k, rfl⟩ := hk
  have h := h p0 p1 p2 p3 p4 p5 p6 p0k p1lo p1hi p2lo p2hi p3k p4lo p4hi p5lo p5hi p6k hp
  exact ⟨h.1, step_span_Scale_5 p0 p1 p2 p3 p4 p5 p6, h.2⟩)
theorem ok_span_Scale_5 : LoopTrue Tryz.prog InvN LC_span_Scale_5 := lp_span_Scale_5 (fun xs => ((num (xs.getD 4 undef)) - (num (xs.getD 5 undef))).toNat) (by
  intro p0 p1 p2 p3 p4 p5 p6 p0k _ _ _ _ p3k _ _ _ _ p6k hp
  have hp : (decide (p4 = LN p3) && decide (LN p0 = 0 ∨ LN p0 = LN p3) && decide (0 ≤ p5) && decide (p5 ≤ p4) && decide (LN p6 = p5) && decide (p4 ≤ 1000)) = true := hp
  simp only [Bool.and_eq_true, decide_eq_true_eq] at hp
  obtain ⟨⟨⟨⟨⟨h1, h2⟩, h3⟩, h4⟩, h5⟩, h6⟩ := hp
  have nx : p5 < p4 → ∀ cs, okO pre_span_Scale_5 (fun xs => ((num (xs.getD 4 undef)) - (num (xs.getD 5 undef))).toNat) (p4 - p5).toNat [.int .i64 (-1), p0, .int .u16 p1, .int .u16 p2, p3, .int .i64 p4, .int .i64 (IntKind.i64.wrap (p5 + 1)), SN p6 cs] := fun h cs => okO_next (by
    show (decide (p4 = LN p3) && decide (LN p0 = 0 ∨ LN p0 = LN p3) && decide (0 ≤ IntKind.i64.wrap (p5 + 1)) && decide (IntKind.i64.wrap (p5 + 1) ≤ p4) && decide (LN (SN p6 cs) = IntKind.i64.wrap (p5 + 1)) && decide (p4 ≤ 1000)) = true
    rw [i64_in (by omega) (by omega)]
    simp only [LN_SN, Bool.and_eq_true, decide_eq_true_eq]
    omega) (by
    show (p4 - IntKind.i64.wrap (p5 + 1)).toNat < (p4 - p5).toNat
    rw [i64_in (by omega) (by omega)]
    omega)
  have ro : p5 < p4 → ∀ cs, RO 10 (SN p6 cs) = true := fun h cs => RO_of (n := 1000) (by rw [LN_SN]; omega) (by decide) (by decide)
  rw [okBL_span_Scale_5]
  refine ⟨bif_ok (fun h => ?_) (fun _ => rfl), ?_⟩
  · have h : p5 < p4 := of_decide_eq_true h
    have g0 : INB p3 p5 = true := INB_of h3 (by omega)
    by_cases hq : LN p0 > 0
    · have hd := decide_eq_true hq
      have k0 : INB p0 p5 = true := INB_of h3 (by omega)
      simp only [g0, k0, ro h, hd, cond_true, Bool.cond_self]
      try (repeat' (first | rfl | refine bif_ok (fun _ => ?_) (fun _ => ?_)))
    · have hd := decide_eq_false hq
      simp only [g0, ro h, hd, cond_true, cond_false, Bool.cond_self]
      try (repeat' (first | rfl | refine bif_ok (fun _ => ?_) (fun _ => ?_)))
  · unfold OUT_span_Scale_5
    refine okO_bif (fun h => ?_) (fun _ => okO_exit 1)
    have h : p5 < p4 := of_decide_eq_true h
    have g0 : INB p3 p5 = true := INB_of h3 (by omega)
    by_cases hq : LN p0 > 0
    · have hd := decide_eq_true hq
      have k0 : INB p0 p5 = true := INB_of h3 (by omega)
      simp only [g0, k0, ro h, hd, cond_true]
      repeat' (first | refine okO_bif (fun _ => ?_) (fun _ => ?_) | exact okO_exit 0 | exact nx h _)
    · have hd := decide_eq_false hq
      simp only [g0, ro h, hd, cond_true, cond_false]
      repeat' (first | refine okO_bif (fun _ => ?_) (fun _ => ?_) | exact okO_exit 0 | exact nx h _))
noncomputable def L_span_Scale : List Value → List Value := Classical.choose (veil fun vs => (evFM ⟨[], [LC_span_Scale_5]⟩ Tryz.prog [S_scale_Both] 1000 8 (inL A_span_Scale vs) R_span_Scale).outL)
theorem L_span_Scale_is (vs : List Value) : L_span_Scale vs = (evFM ⟨[], [LC_span_Scale_5]⟩ Tryz.prog [S_scale_Both] 1000 8 (inL A_span_Scale vs) R_span_Scale).outL := Classical.choose_spec (veil fun vs => (evFM ⟨[], [LC_span_Scale_5]⟩ Tryz.prog [S_scale_Both] 1000 8 (inL A_span_Scale vs) R_span_Scale).outL) vs
def pre_span_Scale (xs : List Value) : Bool := decide (LN (xs.getD 0 undef) ≤ 1000)
noncomputable def C_span_Scale : CSum := ⟨8, L_span_Scale, pre_span_Scale, A_span_Scale, R_span_Scale⟩
theorem env_span_Scale : EnvOK Tryz.prog InvN ⟨[], [LC_span_Scale_5]⟩ ∧ AllOK Tryz.prog InvN [S_scale_Both] := ⟨⟨allC_nil, (allL_cons ok_span_Scale_5 allL_nil)⟩, (allOK_cons ok_scale_Both allOK_nil)⟩
theorem okG_span_Scale (vs : List Value) : (evFM ⟨[], [LC_span_Scale_5]⟩ Tryz.prog [S_scale_Both] 1000 8 (inL A_span_Scale vs) R_span_Scale).goodX R_span_Scale = true := by kernel_rfl
theorem okB_span_Scale (p0 : Value) (p1 : Value) (p2 : Int) (p3 : Int) : (evFM ⟨[], [LC_span_Scale_5]⟩ Tryz.prog [S_scale_Both] 1000 8 (inL A_span_Scale [p0, p1, .int .u16 p2, .int .u16 p3]) R_span_Scale).ok =
    bif ((LN p1) != 0) then
      (bif ((LN p1) != (LN p0)) then
        (true)
      else
        (bif (pre_span_Scale_5 [p1, .int .u16 p2, .int .u16 p3, p0, .int .i64 (LN p0), .int .i64 0, NILV]) then
          (true)
        else
          (false)))
    else
      (bif (pre_span_Scale_5 [p1, .int .u16 p2, .int .u16 p3, p0, .int .i64 (LN p0), .int .i64 0, NILV]) then
        (true)
      else
        (false)) := (okR_eq _).trans (by kernel_rfl)
theorem okA_span_Scale (h : ∀ p0 p1 p2 p3 , inKind (.l [.i .u16, .i .u16, .i .u16, .i .u16, .i .u16]) p0 → inKind (.l [.i .u16]) p1 → IntKind.u16.min ≤ p2 → p2 ≤ IntKind.u16.max → IntKind.u16.min ≤ p3 → p3 ≤ IntKind.u16.max → pre_span_Scale [p0, p1, .int .u16 p2, .int .u16 p3] = true → (evFM ⟨[], [LC_span_Scale_5]⟩ Tryz.prog [S_scale_Both] 1000 8 (inL A_span_Scale [p0, p1, .int .u16 p2, .int .u16 p3]) R_span_Scale).ok = true) : CSumOK Tryz.prog InvN C_span_Scale := csumOK_partV invN_stays env_span_Scale.1 env_span_Scale.2 1000 8 A_span_Scale R_span_Scale L_span_Scale_is pre_span_Scale okG_span_Scale (fun vs hk hp => by
  obtain ⟨p0, _, rfl, p0k, p1, _, rfl, p1k, _, _, rfl, ⟨p2, rfl, p2lo, p2hi⟩, _, _, rfl, ⟨p3, rfl, p3lo, p3hi⟩, rfl⟩ := hk
  exact h p0 p1 p2 p3 p0k p1k p2lo p2hi p3lo p3hi hp)
theorem ok_span_Scale : CSumOK Tryz.prog InvN C_span_Scale := okA_span_Scale (by
  intro p0 p1 p2 p3 _ _ _ _ _ _ hp
  have hp : LN p0 ≤ 1000 := of_decide_eq_true hp
  have key : (LN p1 = 0 ∨ LN p1 = LN p0) → pre_span_Scale_5 [p1, .int .u16 p2, .int .u16 p3, p0, .int .i64 (LN p0), .int .i64 0, NILV] = true := fun h => by
    show (decide (LN p0 = LN p0) && decide (LN p1 = 0 ∨ LN p1 = LN p0) && decide ((0 : Int) ≤ 0) && decide (0 ≤ LN p0) && decide (LN NILV = 0) && decide (LN p0 ≤ 1000)) = true
    simp only [Bool.and_eq_true, decide_eq_true_eq]
    refine ⟨⟨⟨⟨⟨?_, ?_⟩, ?_⟩, ?_⟩, ?_⟩, ?_⟩ <;> first | trivial | omega | rfl | exact LN_nonneg _
  rw [okB_span_Scale]
  refine bif_ok (fun _ => bif_ok (fun _ => rfl) (fun h => ?_)) (fun h => ?_)
  · simp only [bne_eq_false_iff_eq] at h
    rw [key (.inr h)]
    rfl
  · simp only [bne_eq_false_iff_eq] at h
    rw [key (.inl h)]
    rfl)
noncomputable def F_span_Scale (p0 : Value) (p1 : Value) (p2 : Int) (p3 : Int) : Value × Bool := ((L_span_Scale [p0, p1, .int .u16 p2, .int .u16 p3]).getD 0 undef, tru ((L_span_Scale [p0, p1, .int .u16 p2, .int .u16 p3]).getD 1 undef))
theorem F_span_Scale_eq (p0 : Value) (p1 : Value) (p2 : Int) (p3 : Int) : F_span_Scale p0 p1 p2 p3 =
    bif ((LN p1) != 0) then
      (bif ((LN p1) != (LN p0)) then
        ((NILV, false))
      else
        (bif (pre_span_Scale_5 [p1, .int .u16 p2, .int .u16 p3, p0, .int .i64 (LN p0), .int .i64 0, NILV]) then
          (let x0 := LF_span_Scale_5 [p1, .int .u16 p2, .int .u16 p3, p0, .int .i64 (LN p0), .int .i64 0, NILV]
          bif (IXT x0 0) then
            (((x0.getD 2 undef), (tru (x0.getD 1 undef))))
          else
            (((x0.getD 1 undef), true)))
        else
          ((undef, (tru undef)))))
    else
      (bif (pre_span_Scale_5 [p1, .int .u16 p2, .int .u16 p3, p0, .int .i64 (LN p0), .int .i64 0, NILV]) then
        (let x1 := LF_span_Scale_5 [p1, .int .u16 p2, .int .u16 p3, p0, .int .i64 (LN p0), .int .i64 0, NILV]
        bif (IXT x1 0) then
          (((x1.getD 2 undef), (tru (x1.getD 1 undef))))
        else
          (((x1.getD 1 undef), true)))
      else
        ((undef, (tru undef)))) :=
  spellV (L := L_span_Scale) (fun l => ((l).getD 0 undef, tru ((l).getD 1 undef))) (evFM ⟨[], [LC_span_Scale_5]⟩ Tryz.prog [S_scale_Both] 1000 8 (inL A_span_Scale [p0, p1, .int .u16 p2, .int .u16 p3]) R_span_Scale) (L_span_Scale_is _) (by kernel_rfl)

/-! compositor/span.Result -/
def A_span_Result : List PS := [.c (.l [.i .u16, .i .u16, .i .u16, .i .u16, .i .u16, .i .u16]), .c (.l [.i .u16, .i .u16, .i .u16, .i .u16, .i .u16]), .c (.i .u16)]
def R_span_Result : RS := .tup [.c (.l [.i .u16, .i .u16, .i .u16, .i .u16, .i .u16]), .c (.b)]
def head_span_Result_5 : Shp := ⟨[.p (.c (.h (.l [.i .u16, .i .u16, .i .u16, .i .u16, .i .u16, .i .u16]))), .p (.c (.h (.l [.i .u16, .i .u16, .i .u16, .i .u16, .i .u16]))), .p (.c (.h (.i .u16))), .any, .any, .any, .any, .any, .p (.c (.ar 0 [.i .u16, .i .u16, .i .u16, .i .u16, .i .u16] 28)), .any, .any, .any, .any, .any, .any, .any, .any, .any, .p (.c (.h (.i .i64))), .p (.c (.h (.i .i64))), .any, .any, .any, .any, .any, .any, .any, .any, .any, .any, .any, .any, .any, .any, .any, .any, .any, .any, .any, .any, .any, .any, .any], [(0, ⟨[], 28, true, some [.i .u16, .i .u16, .i .u16, .i .u16, .i .u16]⟩)]⟩
def outs_span_Result_5 : List (Xt × Shp × Nat) := [(.ret, ⟨[.any, .any, .any, .any, .any, .any, .p (.c (.ar 0 [.i .u16, .i .u16, .i .u16, .i .u16, .i .u16] 28)), .p (.c (.h (.b))), .any, .any, .any, .any, .any, .any, .any, .any, .any, .any, .any, .any, .any, .any, .any, .any, .any, .any, .any, .any, .any, .any, .any, .any, .any, .any, .any, .any, .any, .any, .any, .any, .any, .any, .any], [(0, ⟨[], 28, true, some [.i .u16, .i .u16, .i .u16, .i .u16, .i .u16]⟩)]⟩, 1), (.exit 0, ⟨[.any, .any, .any, .any, .any, .any, .any, .any, .p (.c (.ar 0 [.i .u16, .i .u16, .i .u16, .i .u16, .i .u16] 28)), .any, .any, .any, .any, .any, .any, .any, .any, .any, .any, .any, .any, .any, .any, .any, .any, .any, .any, .any, .any, .any, .any, .any, .any, .any, .any, .any, .any, .any, .any, .any, .any, .any, .any], [(0, ⟨[], 28, true, some [.i .u16, .i .u16, .i .u16, .i .u16, .i .u16]⟩)]⟩, 1)]
def pre_span_Result_5 (xs : List Value) : Bool := decide ((num (xs.getD 3 undef)) = LN (xs.getD 0 undef)) && decide (LN (xs.getD 1 undef) = LN (xs.getD 0 undef)) && decide (0 ≤ (num (xs.getD 4 undef))) && decide ((num (xs.getD 4 undef)) ≤ (num (xs.getD 3 undef))) && decide (LN (xs.getD 5 undef) = (num (xs.getD 4 undef))) && decide ((num (xs.getD 3 undef)) ≤ 1000)
def pre_span_Result (xs : List Value) : Bool := decide (LN (xs.getD 0 undef) ≤ 1000)

/-! compositor/compositorgen.Pixels -/
def A_gen_Pixels : List PS := [.agg [.i .i64, .l [.i .i64, .i .i64, .i .i64, .i .i64, .i .i64]], .c (.i .i64), .c (.i .u16)]
def R_gen_Pixels : RS := .one (.c (.l [.i .u16, .i .u16, .i .u16, .i .u16, .i .u16]))
def head_gen_Pixels_3 : Shp := ⟨[.any, .p (.c (.h (.i .i64))), .p (.c (.h (.i .u16))), .p (.c (.p 0 0)), .any, .any, .any, .p (.c (.ar 1 [.i .u16, .i .u16, .i .u16, .i .u16, .i .u16] 28)), .p (.c (.h (.i .i64))), .any, .any, .any, .any, .any, .any, .any, .any, .any, .any, .any, .any, .any, .any, .any, .any, .any, .any, .any, .any, .any, .any, .any, .any, .any, .any, .any, .any, .any, .any, .any, .any, .any, .any, .any, .any, .any, .any, .any, .any, .any, .any, .any, .any, .any, .any, .any, .any, .any, .any, .any, .any, .any, .any, .any, .any], [(0, ⟨[.h (.i .i64), .h (.l [.i .i64, .i .i64, .i .i64, .i .i64, .i .i64])], 24, true, none⟩), (1, ⟨[], 28, true, some [.i .u16, .i .u16, .i .u16, .i .u16, .i .u16]⟩)]⟩
def outs_gen_Pixels_3 : List (Xt × Shp × Nat) := [(.exit 0, ⟨[.any, .any, .any, .any, .any, .any, .any, .p (.c (.ar 0 [.i .u16, .i .u16, .i .u16, .i .u16, .i .u16] 28)), .any, .any, .any, .any, .any, .any, .any, .any, .any, .any, .any, .any, .any, .any, .any, .any, .any, .any, .any, .any, .any, .any, .any, .any, .any, .any, .any, .any, .any, .any, .any, .any, .any, .any, .any, .any, .any, .any, .any, .any, .any, .any, .any, .any, .any, .any, .any, .any, .any, .any, .any, .any, .any, .any, .any, .any, .any], [(0, ⟨[], 28, true, some [.i .u16, .i .u16, .i .u16, .i .u16, .i .u16]⟩)]⟩, 1)]
noncomputable def OUT_gen_Pixels_3 (p0 : Int) (p1 : Int) (p2 : Int) (p3 : Int) (p4 : Value) (p5 : Value) : List Value :=
    bif (decide (p2 < p0)) then
      (bif (decide ((LN p4) > 0)) then
        (bif ((LN p4) == 0) then
          ([])
        else
          (bif (decide ((Int.tmod p2 (LN p4)) < (LN p4))) then
            (bif (INB p4 (Int.tmod p2 (LN p4))) then
              (let x0 := F_gen_Mod p3 6
              bif (x0 == 0) then
                (bif (RO 10 (SN p5 [.int .u16 0, .int .u16 0, .int .u16 0, .int .u16 0, .int .u16 0])) then
                  ([.int .i64 (-1), .int .i64 p0, .int .u16 p1, .int .i64 (IntKind.i64.wrap (p2 + 1)), .int .i64 p3, p4, (SN p5 [.int .u16 0, .int .u16 0, .int .u16 0, .int .u16 0, .int .u16 0])])
                else
                  ([]))
              else
                (bif (x0 == 1) then
                  (let x1 := F_gen_Pixel (num (CV (IX p4 (Int.tmod p2 (LN p4))) 0)) (num (CV (IX p4 (Int.tmod p2 (LN p4))) 1)) (num (CV (IX p4 (Int.tmod p2 (LN p4))) 2)) (num (CV (IX p4 (Int.tmod p2 (LN p4))) 3)) (num (CV (IX p4 (Int.tmod p2 (LN p4))) 4)) p1
                  bif (RO 10 (SN p5 [.int .u16 x1.1, .int .u16 x1.2.1, .int .u16 x1.2.2.1, .int .u16 p1, .int .u16 p1])) then
                    ([.int .i64 (-1), .int .i64 p0, .int .u16 p1, .int .i64 (IntKind.i64.wrap (p2 + 1)), .int .i64 p3, p4, (SN p5 [.int .u16 x1.1, .int .u16 x1.2.1, .int .u16 x1.2.2.1, .int .u16 p1, .int .u16 p1])])
                  else
                    ([]))
                else
                  (bif (x0 == 2) then
                    (bif (decide ((LN p5) > 0)) then
                      (bif (INB p5 0) then
                        (bif (RO 10 (SN p5 [.int .u16 (num (CV (IX p5 0) 0)), .int .u16 (num (CV (IX p5 0) 1)), .int .u16 (num (CV (IX p5 0) 2)), .int .u16 (num (CV (IX p5 0) 3)), .int .u16 (num (CV (IX p5 0) 4))])) then
                          ([.int .i64 (-1), .int .i64 p0, .int .u16 p1, .int .i64 (IntKind.i64.wrap (p2 + 1)), .int .i64 p3, p4, (SN p5 [.int .u16 (num (CV (IX p5 0) 0)), .int .u16 (num (CV (IX p5 0) 1)), .int .u16 (num (CV (IX p5 0) 2)), .int .u16 (num (CV (IX p5 0) 3)), .int .u16 (num (CV (IX p5 0) 4))])])
                        else
                          ([]))
                      else
                        ([]))
                    else
                      (let x2 := F_gen_Pixel (num (CV (IX p4 (Int.tmod p2 (LN p4))) 0)) (num (CV (IX p4 (Int.tmod p2 (LN p4))) 1)) (num (CV (IX p4 (Int.tmod p2 (LN p4))) 2)) (num (CV (IX p4 (Int.tmod p2 (LN p4))) 3)) (num (CV (IX p4 (Int.tmod p2 (LN p4))) 4)) p1
                      bif (RO 10 (SN p5 [.int .u16 x2.1, .int .u16 x2.2.1, .int .u16 x2.2.2.1, .int .u16 x2.2.2.2.1, .int .u16 x2.2.2.2.2])) then
                        ([.int .i64 (-1), .int .i64 p0, .int .u16 p1, .int .i64 (IntKind.i64.wrap (p2 + 1)), .int .i64 p3, p4, (SN p5 [.int .u16 x2.1, .int .u16 x2.2.1, .int .u16 x2.2.2.1, .int .u16 x2.2.2.2.1, .int .u16 x2.2.2.2.2])])
                      else
                        ([])))
                  else
                    (let x3 := F_gen_Pixel (num (CV (IX p4 (Int.tmod p2 (LN p4))) 0)) (num (CV (IX p4 (Int.tmod p2 (LN p4))) 1)) (num (CV (IX p4 (Int.tmod p2 (LN p4))) 2)) (num (CV (IX p4 (Int.tmod p2 (LN p4))) 3)) (num (CV (IX p4 (Int.tmod p2 (LN p4))) 4)) p1
                    bif (RO 10 (SN p5 [.int .u16 x3.1, .int .u16 x3.2.1, .int .u16 x3.2.2.1, .int .u16 x3.2.2.2.1, .int .u16 x3.2.2.2.2])) then
                      ([.int .i64 (-1), .int .i64 p0, .int .u16 p1, .int .i64 (IntKind.i64.wrap (p2 + 1)), .int .i64 p3, p4, (SN p5 [.int .u16 x3.1, .int .u16 x3.2.1, .int .u16 x3.2.2.1, .int .u16 x3.2.2.2.1, .int .u16 x3.2.2.2.2])])
                    else
                      ([])))))
            else
              ([]))
          else
            (let x4 := F_gen_Mod p3 6
            bif (x4 == 0) then
              (bif (RO 10 (SN p5 [.int .u16 0, .int .u16 0, .int .u16 0, .int .u16 0, .int .u16 0])) then
                ([.int .i64 (-1), .int .i64 p0, .int .u16 p1, .int .i64 (IntKind.i64.wrap (p2 + 1)), .int .i64 p3, p4, (SN p5 [.int .u16 0, .int .u16 0, .int .u16 0, .int .u16 0, .int .u16 0])])
              else
                ([]))
            else
              (bif (x4 == 1) then
                (let x5 := F_gen_Pixel 0 0 0 0 0 p1
                bif (RO 10 (SN p5 [.int .u16 x5.1, .int .u16 x5.2.1, .int .u16 x5.2.2.1, .int .u16 p1, .int .u16 p1])) then
                  ([.int .i64 (-1), .int .i64 p0, .int .u16 p1, .int .i64 (IntKind.i64.wrap (p2 + 1)), .int .i64 p3, p4, (SN p5 [.int .u16 x5.1, .int .u16 x5.2.1, .int .u16 x5.2.2.1, .int .u16 p1, .int .u16 p1])])
                else
                  ([]))
              else
                (bif (x4 == 2) then
                  (bif (decide ((LN p5) > 0)) then
                    (bif (INB p5 0) then
                      (bif (RO 10 (SN p5 [.int .u16 (num (CV (IX p5 0) 0)), .int .u16 (num (CV (IX p5 0) 1)), .int .u16 (num (CV (IX p5 0) 2)), .int .u16 (num (CV (IX p5 0) 3)), .int .u16 (num (CV (IX p5 0) 4))])) then
                        ([.int .i64 (-1), .int .i64 p0, .int .u16 p1, .int .i64 (IntKind.i64.wrap (p2 + 1)), .int .i64 p3, p4, (SN p5 [.int .u16 (num (CV (IX p5 0) 0)), .int .u16 (num (CV (IX p5 0) 1)), .int .u16 (num (CV (IX p5 0) 2)), .int .u16 (num (CV (IX p5 0) 3)), .int .u16 (num (CV (IX p5 0) 4))])])
                      else
                        ([]))
                    else
                      ([]))
                  else
                    (let x6 := F_gen_Pixel 0 0 0 0 0 p1
                    bif (RO 10 (SN p5 [.int .u16 x6.1, .int .u16 x6.2.1, .int .u16 x6.2.2.1, .int .u16 x6.2.2.2.1, .int .u16 x6.2.2.2.2])) then
                      ([.int .i64 (-1), .int .i64 p0, .int .u16 p1, .int .i64 (IntKind.i64.wrap (p2 + 1)), .int .i64 p3, p4, (SN p5 [.int .u16 x6.1, .int .u16 x6.2.1, .int .u16 x6.2.2.1, .int .u16 x6.2.2.2.1, .int .u16 x6.2.2.2.2])])
                    else
                      ([])))
                else
                  (let x7 := F_gen_Pixel 0 0 0 0 0 p1
                  bif (RO 10 (SN p5 [.int .u16 x7.1, .int .u16 x7.2.1, .int .u16 x7.2.2.1, .int .u16 x7.2.2.2.1, .int .u16 x7.2.2.2.2])) then
                    ([.int .i64 (-1), .int .i64 p0, .int .u16 p1, .int .i64 (IntKind.i64.wrap (p2 + 1)), .int .i64 p3, p4, (SN p5 [.int .u16 x7.1, .int .u16 x7.2.1, .int .u16 x7.2.2.1, .int .u16 x7.2.2.2.1, .int .u16 x7.2.2.2.2])])
                  else
                    ([])))))))
      else
        (bif (decide (p2 < (LN p4))) then
          (bif (INB p4 p2) then
            (let x8 := F_gen_Mod p3 6
            bif (x8 == 0) then
              (bif (RO 10 (SN p5 [.int .u16 0, .int .u16 0, .int .u16 0, .int .u16 0, .int .u16 0])) then
                ([.int .i64 (-1), .int .i64 p0, .int .u16 p1, .int .i64 (IntKind.i64.wrap (p2 + 1)), .int .i64 p3, p4, (SN p5 [.int .u16 0, .int .u16 0, .int .u16 0, .int .u16 0, .int .u16 0])])
              else
                ([]))
            else
              (bif (x8 == 1) then
                (let x9 := F_gen_Pixel (num (CV (IX p4 p2) 0)) (num (CV (IX p4 p2) 1)) (num (CV (IX p4 p2) 2)) (num (CV (IX p4 p2) 3)) (num (CV (IX p4 p2) 4)) p1
                bif (RO 10 (SN p5 [.int .u16 x9.1, .int .u16 x9.2.1, .int .u16 x9.2.2.1, .int .u16 p1, .int .u16 p1])) then
                  ([.int .i64 (-1), .int .i64 p0, .int .u16 p1, .int .i64 (IntKind.i64.wrap (p2 + 1)), .int .i64 p3, p4, (SN p5 [.int .u16 x9.1, .int .u16 x9.2.1, .int .u16 x9.2.2.1, .int .u16 p1, .int .u16 p1])])
                else
                  ([]))
              else
                (bif (x8 == 2) then
                  (bif (decide ((LN p5) > 0)) then
                    (bif (INB p5 0) then
                      (bif (RO 10 (SN p5 [.int .u16 (num (CV (IX p5 0) 0)), .int .u16 (num (CV (IX p5 0) 1)), .int .u16 (num (CV (IX p5 0) 2)), .int .u16 (num (CV (IX p5 0) 3)), .int .u16 (num (CV (IX p5 0) 4))])) then
                        ([.int .i64 (-1), .int .i64 p0, .int .u16 p1, .int .i64 (IntKind.i64.wrap (p2 + 1)), .int .i64 p3, p4, (SN p5 [.int .u16 (num (CV (IX p5 0) 0)), .int .u16 (num (CV (IX p5 0) 1)), .int .u16 (num (CV (IX p5 0) 2)), .int .u16 (num (CV (IX p5 0) 3)), .int .u16 (num (CV (IX p5 0) 4))])])
                      else
                        ([]))
                    else
                      ([]))
                  else
                    (let x10 := F_gen_Pixel (num (CV (IX p4 p2) 0)) (num (CV (IX p4 p2) 1)) (num (CV (IX p4 p2) 2)) (num (CV (IX p4 p2) 3)) (num (CV (IX p4 p2) 4)) p1
                    bif (RO 10 (SN p5 [.int .u16 x10.1, .int .u16 x10.2.1, .int .u16 x10.2.2.1, .int .u16 x10.2.2.2.1, .int .u16 x10.2.2.2.2])) then
                      ([.int .i64 (-1), .int .i64 p0, .int .u16 p1, .int .i64 (IntKind.i64.wrap (p2 + 1)), .int .i64 p3, p4, (SN p5 [.int .u16 x10.1, .int .u16 x10.2.1, .int .u16 x10.2.2.1, .int .u16 x10.2.2.2.1, .int .u16 x10.2.2.2.2])])
                    else
                      ([])))
                else
                  (let x11 := F_gen_Pixel (num (CV (IX p4 p2) 0)) (num (CV (IX p4 p2) 1)) (num (CV (IX p4 p2) 2)) (num (CV (IX p4 p2) 3)) (num (CV (IX p4 p2) 4)) p1
                  bif (RO 10 (SN p5 [.int .u16 x11.1, .int .u16 x11.2.1, .int .u16 x11.2.2.1, .int .u16 x11.2.2.2.1, .int .u16 x11.2.2.2.2])) then
                    ([.int .i64 (-1), .int .i64 p0, .int .u16 p1, .int .i64 (IntKind.i64.wrap (p2 + 1)), .int .i64 p3, p4, (SN p5 [.int .u16 x11.1, .int .u16 x11.2.1, .int .u16 x11.2.2.1, .int .u16 x11.2.2.2.1, .int .u16 x11.2.2.2.2])])
                  else
                    ([])))))
          else
            ([]))
        else
          (let x12 := F_gen_Mod p3 6
          bif (x12 == 0) then
            (bif (RO 10 (SN p5 [.int .u16 0, .int .u16 0, .int .u16 0, .int .u16 0, .int .u16 0])) then
              ([.int .i64 (-1), .int .i64 p0, .int .u16 p1, .int .i64 (IntKind.i64.wrap (p2 + 1)), .int .i64 p3, p4, (SN p5 [.int .u16 0, .int .u16 0, .int .u16 0, .int .u16 0, .int .u16 0])])
            else
              ([]))
          else
            (bif (x12 == 1) then
              (let x13 := F_gen_Pixel 0 0 0 0 0 p1
              bif (RO 10 (SN p5 [.int .u16 x13.1, .int .u16 x13.2.1, .int .u16 x13.2.2.1, .int .u16 p1, .int .u16 p1])) then
                ([.int .i64 (-1), .int .i64 p0, .int .u16 p1, .int .i64 (IntKind.i64.wrap (p2 + 1)), .int .i64 p3, p4, (SN p5 [.int .u16 x13.1, .int .u16 x13.2.1, .int .u16 x13.2.2.1, .int .u16 p1, .int .u16 p1])])
              else
                ([]))
            else
              (bif (x12 == 2) then
                (bif (decide ((LN p5) > 0)) then
                  (bif (INB p5 0) then
                    (bif (RO 10 (SN p5 [.int .u16 (num (CV (IX p5 0) 0)), .int .u16 (num (CV (IX p5 0) 1)), .int .u16 (num (CV (IX p5 0) 2)), .int .u16 (num (CV (IX p5 0) 3)), .int .u16 (num (CV (IX p5 0) 4))])) then
                      ([.int .i64 (-1), .int .i64 p0, .int .u16 p1, .int .i64 (IntKind.i64.wrap (p2 + 1)), .int .i64 p3, p4, (SN p5 [.int .u16 (num (CV (IX p5 0) 0)), .int .u16 (num (CV (IX p5 0) 1)), .int .u16 (num (CV (IX p5 0) 2)), .int .u16 (num (CV (IX p5 0) 3)), .int .u16 (num (CV (IX p5 0) 4))])])
                    else
                      ([]))
                  else
                    ([]))
                else
                  (let x14 := F_gen_Pixel 0 0 0 0 0 p1
                  bif (RO 10 (SN p5 [.int .u16 x14.1, .int .u16 x14.2.1, .int .u16 x14.2.2.1, .int .u16 x14.2.2.2.1, .int .u16 x14.2.2.2.2])) then
                    ([.int .i64 (-1), .int .i64 p0, .int .u16 p1, .int .i64 (IntKind.i64.wrap (p2 + 1)), .int .i64 p3, p4, (SN p5 [.int .u16 x14.1, .int .u16 x14.2.1, .int .u16 x14.2.2.1, .int .u16 x14.2.2.2.1, .int .u16 x14.2.2.2.2])])
                  else
                    ([])))
              else
                (let x15 := F_gen_Pixel 0 0 0 0 0 p1
                bif (RO 10 (SN p5 [.int .u16 x15.1, .int .u16 x15.2.1, .int .u16 x15.2.2.1, .int .u16 x15.2.2.2.1, .int .u16 x15.2.2.2.2])) then
                  ([.int .i64 (-1), .int .i64 p0, .int .u16 p1, .int .i64 (IntKind.i64.wrap (p2 + 1)), .int .i64 p3, p4, (SN p5 [.int .u16 x15.1, .int .u16 x15.2.1, .int .u16 x15.2.2.1, .int .u16 x15.2.2.2.1, .int .u16 x15.2.2.2.2])])
                else
                  ([])))))))
    else
      ([.int .i64 0, p5])
noncomputable def OL_gen_Pixels_3 (xs : List Value) : List Value := OUT_gen_Pixels_3 (num (xs.getD 0 undef)) (num (xs.getD 1 undef)) (num (xs.getD 2 undef)) (num (xs.getD 3 undef)) (xs.getD 4 undef) (xs.getD 5 undef)
noncomputable def LF_gen_Pixels_3 : List Value → List Value := LFof OL_gen_Pixels_3
def pre_gen_Pixels_3 (xs : List Value) : Bool := decide (0 ≤ num (xs.getD 2 undef)) && decide (num (xs.getD 2 undef) ≤ num (xs.getD 0 undef)) && decide (LN (xs.getD 5 undef) = num (xs.getD 2 undef)) && decide (num (xs.getD 0 undef) ≤ 1000)
noncomputable def LC_gen_Pixels_3 : LoopC := ⟨6, 3, LF_gen_Pixels_3, pre_gen_Pixels_3, 2, head_gen_Pixels_3, outs_gen_Pixels_3⟩
theorem LF_gen_Pixels_3_go (p0 : Int) (p1 : Int) (p2 : Int) (p3 : Int) (p4 : Value) (p5 : Value) : LF_gen_Pixels_3 [.int .i64 p0, .int .u16 p1, .int .i64 p2, .int .i64 p3, p4, p5] = goOn LF_gen_Pixels_3 (OUT_gen_Pixels_3 p0 p1 p2 p3 p4 p5) := LFof_eq _ _
theorem okBL_gen_Pixels_3 (p0 : Int) (p1 : Int) (p2 : Int) (p3 : Int) (p4 : Value) (p5 : Value) : (evL ⟨[], []⟩ Tryz.prog [S_gen_Mod, S_gen_Pixel] 1000 LC_gen_Pixels_3 [.int .i64 p0, .int .u16 p1, .int .i64 p2, .int .i64 p3, p4, p5]).ok =
    bif (decide (p2 < p0)) then
      (bif (decide ((LN p4) > 0)) then
        (bif ((LN p4) == 0) then
          (false)
        else
          (bif (decide ((Int.tmod p2 (LN p4)) < (LN p4))) then
            (bif (INB p4 (Int.tmod p2 (LN p4))) then
              (let x0 := F_gen_Mod p3 6
              bif (x0 == 0) then
                (bif (RO 10 (SN p5 [.int .u16 0, .int .u16 0, .int .u16 0, .int .u16 0, .int .u16 0])) then
                  (true)
                else
                  (false))
              else
                (bif (x0 == 1) then
                  (let x1 := F_gen_Pixel (num (CV (IX p4 (Int.tmod p2 (LN p4))) 0)) (num (CV (IX p4 (Int.tmod p2 (LN p4))) 1)) (num (CV (IX p4 (Int.tmod p2 (LN p4))) 2)) (num (CV (IX p4 (Int.tmod p2 (LN p4))) 3)) (num (CV (IX p4 (Int.tmod p2 (LN p4))) 4)) p1
                  bif (RO 10 (SN p5 [.int .u16 x1.1, .int .u16 x1.2.1, .int .u16 x1.2.2.1, .int .u16 p1, .int .u16 p1])) then
                    (true)
                  else
                    (false))
                else
                  (bif (x0 == 2) then
                    (bif (decide ((LN p5) > 0)) then
                      (bif (INB p5 0) then
                        (bif (RO 10 (SN p5 [.int .u16 (num (CV (IX p5 0) 0)), .int .u16 (num (CV (IX p5 0) 1)), .int .u16 (num (CV (IX p5 0) 2)), .int .u16 (num (CV (IX p5 0) 3)), .int .u16 (num (CV (IX p5 0) 4))])) then
                          (true)
                        else
                          (false))
                      else
                        (false))
                    else
                      (let x2 := F_gen_Pixel (num (CV (IX p4 (Int.tmod p2 (LN p4))) 0)) (num (CV (IX p4 (Int.tmod p2 (LN p4))) 1)) (num (CV (IX p4 (Int.tmod p2 (LN p4))) 2)) (num (CV (IX p4 (Int.tmod p2 (LN p4))) 3)) (num (CV (IX p4 (Int.tmod p2 (LN p4))) 4)) p1
                      bif (RO 10 (SN p5 [.int .u16 x2.1, .int .u16 x2.2.1, .int .u16 x2.2.2.1, .int .u16 x2.2.2.2.1, .int .u16 x2.2.2.2.2])) then
                        (true)
                      else
                        (false)))
                  else
                    (let x3 := F_gen_Pixel (num (CV (IX p4 (Int.tmod p2 (LN p4))) 0)) (num (CV (IX p4 (Int.tmod p2 (LN p4))) 1)) (num (CV (IX p4 (Int.tmod p2 (LN p4))) 2)) (num (CV (IX p4 (Int.tmod p2 (LN p4))) 3)) (num (CV (IX p4 (Int.tmod p2 (LN p4))) 4)) p1
                    bif (RO 10 (SN p5 [.int .u16 x3.1, .int .u16 x3.2.1, .int .u16 x3.2.2.1, .int .u16 x3.2.2.2.1, .int .u16 x3.2.2.2.2])) then
                      (true)
                    else
                      (false)))))
            else
              (false))
          else
            (let x4 := F_gen_Mod p3 6
            bif (x4 == 0) then
              (bif (RO 10 (SN p5 [.int .u16 0, .int .u16 0, .int .u16 0, .int .u16 0, .int .u16 0])) then
                (true)
              else
                (false))
            else
              (bif (x4 == 1) then
                (let x5 := F_gen_Pixel 0 0 0 0 0 p1
                bif (RO 10 (SN p5 [.int .u16 x5.1, .int .u16 x5.2.1, .int .u16 x5.2.2.1, .int .u16 p1, .int .u16 p1])) then
                  (true)
                else
                  (false))
              else
                (bif (x4 == 2) then
                  (bif (decide ((LN p5) > 0)) then
                    (bif (INB p5 0) then
                      (bif (RO 10 (SN p5 [.int .u16 (num (CV (IX p5 0) 0)), .int .u16 (num (CV (IX p5 0) 1)), .int .u16 (num (CV (IX p5 0) 2)), .int .u16 (num (CV (IX p5 0) 3)), .int .u16 (num (CV (IX p5 0) 4))])) then
                        (true)
                      else
                        (false))
                    else
                      (false))
                  else
                    (let x6 := F_gen_Pixel 0 0 0 0 0 p1
                    bif (RO 10 (SN p5 [.int .u16 x6.1, .int .u16 x6.2.1, .int .u16 x6.2.2.1, .int .u16 x6.2.2.2.1, .int .u16 x6.2.2.2.2])) then
                      (true)
                    else
                      (false)))
                else
                  (let x7 := F_gen_Pixel 0 0 0 0 0 p1
                  bif (RO 10 (SN p5 [.int .u16 x7.1, .int .u16 x7.2.1, .int .u16 x7.2.2.1, .int .u16 x7.2.2.2.1, .int .u16 x7.2.2.2.2])) then
                    (true)
                  else
                    (false)))))))
      else
        (bif (decide (p2 < (LN p4))) then
          (bif (INB p4 p2) then
            (let x8 := F_gen_Mod p3 6
            bif (x8 == 0) then
              (bif (RO 10 (SN p5 [.int .u16 0, .int .u16 0, .int .u16 0, .int .u16 0, .int .u16 0])) then
                (true)
              else
                (false))
            else
              (bif (x8 == 1) then
                (let x9 := F_gen_Pixel (num (CV (IX p4 p2) 0)) (num (CV (IX p4 p2) 1)) (num (CV (IX p4 p2) 2)) (num (CV (IX p4 p2) 3)) (num (CV (IX p4 p2) 4)) p1
                bif (RO 10 (SN p5 [.int .u16 x9.1, .int .u16 x9.2.1, .int .u16 x9.2.2.1, .int .u16 p1, .int .u16 p1])) then
                  (true)
                else
                  (false))
              else
                (bif (x8 == 2) then
                  (bif (decide ((LN p5) > 0)) then
                    (bif (INB p5 0) then
                      (bif (RO 10 (SN p5 [.int .u16 (num (CV (IX p5 0) 0)), .int .u16 (num (CV (IX p5 0) 1)), .int .u16 (num (CV (IX p5 0) 2)), .int .u16 (num (CV (IX p5 0) 3)), .int .u16 (num (CV (IX p5 0) 4))])) then
                        (true)
                      else
                        (false))
                    else
                      (false))
                  else
                    (let x10 := F_gen_Pixel (num (CV (IX p4 p2) 0)) (num (CV (IX p4 p2) 1)) (num (CV (IX p4 p2) 2)) (num (CV (IX p4 p2) 3)) (num (CV (IX p4 p2) 4)) p1
                    bif (RO 10 (SN p5 [.int .u16 x10.1, .int .u16 x10.2.1, .int .u16 x10.2.2.1, .int .u16 x10.2.2.2.1, .int .u16 x10.2.2.2.2])) then
                      (true)
                    else
                      (false)))
                else
                  (let x11 := F_gen_Pixel (num (CV (IX p4 p2) 0)) (num (CV (IX p4 p2) 1)) (num (CV (IX p4 p2) 2)) (num (CV (IX p4 p2) 3)) (num (CV (IX p4 p2) 4)) p1
                  bif (RO 10 (SN p5 [.int .u16 x11.1, .int .u16 x11.2.1, .int .u16 x11.2.2.1, .int .u16 x11.2.2.2.1, .int .u16 x11.2.2.2.2])) then
                    (true)
                  else
                    (false)))))
          else
            (false))
        else
          (let x12 := F_gen_Mod p3 6
          bif (x12 == 0) then
            (bif (RO 10 (SN p5 [.int .u16 0, .int .u16 0, .int .u16 0, .int .u16 0, .int .u16 0])) then
              (true)
            else
              (false))
          else
            (bif (x12 == 1) then
              (let x13 := F_gen_Pixel 0 0 0 0 0 p1
              bif (RO 10 (SN p5 [.int .u16 x13.1, .int .u16 x13.2.1, .int .u16 x13.2.2.1, .int .u16 p1, .int .u16 p1])) then
                (true)
              else
                (false))
            else
              (bif (x12 == 2) then
                (bif (decide ((LN p5) > 0)) then
                  (bif (INB p5 0) then
                    (bif (RO 10 (SN p5 [.int .u16 (num (CV (IX p5 0) 0)), .int .u16 (num (CV (IX p5 0) 1)), .int .u16 (num (CV (IX p5 0) 2)), .int .u16 (num (CV (IX p5 0) 3)), .int .u16 (num (CV (IX p5 0) 4))])) then
                      (true)
                    else
                      (false))
                  else
                    (false))
                else
                  (let x14 := F_gen_Pixel 0 0 0 0 0 p1
                  bif (RO 10 (SN p5 [.int .u16 x14.1, .int .u16 x14.2.1, .int .u16 x14.2.2.1, .int .u16 x14.2.2.2.1, .int .u16 x14.2.2.2.2])) then
                    (true)
                  else
                    (false)))
              else
                (let x15 := F_gen_Pixel 0 0 0 0 0 p1
                bif (RO 10 (SN p5 [.int .u16 x15.1, .int .u16 x15.2.1, .int .u16 x15.2.2.1, .int .u16 x15.2.2.2.1, .int .u16 x15.2.2.2.2])) then
                  (true)
                else
                  (false)))))))
    else
      (true) := (okR_eq _).trans (by kernel_rfl)
theorem step_gen_Pixels_3 (p0 : Int) (p1 : Int) (p2 : Int) (p3 : Int) (p4 : Value) (p5 : Value) : (evL ⟨[], []⟩ Tryz.prog [S_gen_Mod, S_gen_Pixel] 1000 LC_gen_Pixels_3 [.int .i64 p0, .int .u16 p1, .int .i64 p2, .int .i64 p3, p4, p5]).outL = OUT_gen_Pixels_3 p0 p1 p2 p3 p4 p5 := (fold_eq (fun l => l) _).trans (by kernel_rfl)
theorem one_gen_Pixels_3 : (loopsBy Tryz.prog 6 3).length = 1 := by kernel_rfl
theorem env_gen_Pixels_3 : EnvOK Tryz.prog InvN ⟨[], []⟩ ∧ AllOK Tryz.prog InvN [S_gen_Mod, S_gen_Pixel] := ⟨⟨allC_nil, allL_nil⟩, (allOK_cons ok_gen_Mod.any (allOK_cons ok_gen_Pixel allOK_nil))⟩
theorem lp_gen_Pixels_3 (meas : List Value → Nat) (h : ∀ p0 p1 p2 p3 p4 p5, IntKind.i64.min ≤ p0 → p0 ≤ IntKind.i64.max → IntKind.u16.min ≤ p1 → p1 ≤ IntKind.u16.max → IntKind.i64.min ≤ p2 → p2 ≤ IntKind.i64.max → IntKind.i64.min ≤ p3 → p3 ≤ IntKind.i64.max → inKind (.l [.i .i64, .i .i64, .i .i64, .i .i64, .i .i64]) p4 → inKind (.l [.i .u16, .i .u16, .i .u16, .i .u16, .i .u16]) p5 → pre_gen_Pixels_3 [.int .i64 p0, .int .u16 p1, .int .i64 p2, .int .i64 p3, p4, p5] = true → (evL ⟨[], []⟩ Tryz.prog [S_gen_Mod, S_gen_Pixel] 1000 LC_gen_Pixels_3 [.int .i64 p0, .int .u16 p1, .int .i64 p2, .int .i64 p3, p4, p5]).ok = true ∧ okO pre_gen_Pixels_3 meas (meas [.int .i64 p0, .int .u16 p1, .int .i64 p2, .int .i64 p3, p4, p5]) (OUT_gen_Pixels_3 p0 p1 p2 p3 p4 p5)) : LoopTrue Tryz.prog InvN LC_gen_Pixels_3 := loop_lf env_gen_Pixels_3 1000 LC_gen_Pixels_3 one_gen_Pixels_3 meas OL_gen_Pixels_3 rfl (fun xs hk hp => by
  have hk : KindsL [.i .i64, .i .u16, .i .i64, .i .i64, .l [.i .i64, .i .i64, .i .i64, .i .i64, .i .i64], .l [.i .u16, .i .u16, .i .u16, .i .u16, .i .u16]] xs := hk
  obtain ⟨_, _, rfl, ⟨p0, rfl, p0lo, p0hi⟩, _, _, rfl, ⟨p1, rfl, p1lo, p1hi⟩, _, _, rfl, ⟨p2, rfl, p2lo, p2hi⟩, _, _, rfl, ⟨p3, rfl, p3lo, p3hi⟩, p4, _, rfl, p4k, p5, _, rfl, p5k, rfl⟩ := hk
  have h := h p0 p1 p2 p3 p4 p5 p0lo p0hi p1lo p1hi p2lo p2hi p3lo p3hi p4k p5k hp
  exact ⟨h.1, step_gen_Pixels_3 p0 p1 p2 p3 p4 p5, h.2⟩)
set_option maxHeartbeats 2000000 in
theorem ok_gen_Pixels_3 : LoopTrue Tryz.prog InvN LC_gen_Pixels_3 := lp_gen_Pixels_3 (fun xs => (num (xs.getD 0 undef) - num (xs.getD 2 undef)).toNat) (by
  intro p0 p1 p2 p3 p4 p5 _ _ _ _ _ _ _ _ p4k p5k hp
  have hp : (decide (0 ≤ p2) && decide (p2 ≤ p0) && decide (LN p5 = p2) && decide (p0 ≤ 1000)) = true := hp
  simp only [Bool.and_eq_true, decide_eq_true_eq] at hp
  obtain ⟨⟨⟨h1, h2⟩, h3⟩, h4⟩ := hp
  have nx : p2 < p0 → ∀ cs, okO pre_gen_Pixels_3 (fun xs => (num (xs.getD 0 undef) - num (xs.getD 2 undef)).toNat) (p0 - p2).toNat [.int .i64 (-1), .int .i64 p0, .int .u16 p1, .int .i64 (IntKind.i64.wrap (p2 + 1)), .int .i64 p3, p4, SN p5 cs] := fun h cs => okO_next (by
    show (decide (0 ≤ IntKind.i64.wrap (p2 + 1)) && decide (IntKind.i64.wrap (p2 + 1) ≤ p0) && decide (LN (SN p5 cs) = IntKind.i64.wrap (p2 + 1)) && decide (p0 ≤ 1000)) = true
    rw [i64_in (by omega) (by omega)]
    simp only [LN_SN, Bool.and_eq_true, decide_eq_true_eq]
    omega) (by
    show (p0 - IntKind.i64.wrap (p2 + 1)).toNat < (p0 - p2).toNat
    rw [i64_in (by omega) (by omega)]
    omega)
  have ro : p2 < p0 → ∀ cs, RO 10 (SN p5 cs) = true := fun h cs => RO_of (n := 1000) (by rw [LN_SN]; omega) (by decide) (by decide)
  rw [okBL_gen_Pixels_3]
  refine ⟨bif_ok (fun h => ?_) (fun _ => rfl), ?_⟩
  · have h : p2 < p0 := of_decide_eq_true h
    by_cases hq : LN p4 > 0
    · have hd := decide_eq_true hq
      have q0 : (LN p4 == 0) = false := by simp only [beq_eq_false_iff_ne]; omega
      have q1 := Int.tmod_nonneg (LN p4) h1
      have q2 := Int.tmod_lt_of_pos p2 hq
      have q3 := decide_eq_true q2
      have q4 : INB p4 (Int.tmod p2 (LN p4)) = true := INB_of q1 q2
      by_cases hz : LN p5 > 0
      · have he := decide_eq_true hz
        have q5 : INB p5 0 = true := INB_of (Int.le_refl 0) hz
        simp only [hd, q0, q3, q4, he, q5, ro h, cond_true, cond_false, Bool.cond_self]
        try (repeat' (first | rfl | refine bif_ok (fun _ => ?_) (fun _ => ?_)))
      · have he := decide_eq_false hz
        simp only [hd, q0, q3, q4, he, ro h, cond_true, cond_false, Bool.cond_self]
        try (repeat' (first | rfl | refine bif_ok (fun _ => ?_) (fun _ => ?_)))
    · have hd := decide_eq_false hq
      have q0 := LN_nonneg p4
      have q3 : decide (p2 < LN p4) = false := decide_eq_false (by omega)
      by_cases hz : LN p5 > 0
      · have he := decide_eq_true hz
        have q5 : INB p5 0 = true := INB_of (Int.le_refl 0) hz
        simp only [hd, q3, he, q5, ro h, cond_true, cond_false, Bool.cond_self]
        try (repeat' (first | rfl | refine bif_ok (fun _ => ?_) (fun _ => ?_)))
      · have he := decide_eq_false hz
        simp only [hd, q3, he, ro h, cond_true, cond_false, Bool.cond_self]
        try (repeat' (first | rfl | refine bif_ok (fun _ => ?_) (fun _ => ?_)))
  · unfold OUT_gen_Pixels_3
    refine okO_bif (fun h => ?_) (fun _ => okO_exit 0)
    have h : p2 < p0 := of_decide_eq_true h
    by_cases hq : LN p4 > 0
    · have hd := decide_eq_true hq
      have q0 : (LN p4 == 0) = false := by simp only [beq_eq_false_iff_ne]; omega
      have q1 := Int.tmod_nonneg (LN p4) h1
      have q2 := Int.tmod_lt_of_pos p2 hq
      have q3 := decide_eq_true q2
      have q4 : INB p4 (Int.tmod p2 (LN p4)) = true := INB_of q1 q2
      by_cases hz : LN p5 > 0
      · have he := decide_eq_true hz
        have q5 : INB p5 0 = true := INB_of (Int.le_refl 0) hz
        simp only [hd, q0, q3, q4, he, q5, ro h, cond_true, cond_false]
        repeat' (first | refine okO_bif (fun _ => ?_) (fun _ => ?_) | exact nx h _)
      · have he := decide_eq_false hz
        simp only [hd, q0, q3, q4, he, ro h, cond_true, cond_false]
        repeat' (first | refine okO_bif (fun _ => ?_) (fun _ => ?_) | exact nx h _)
    · have hd := decide_eq_false hq
      have q0 := LN_nonneg p4
      have q3 : decide (p2 < LN p4) = false := decide_eq_false (by omega)
      by_cases hz : LN p5 > 0
      · have he := decide_eq_true hz
        have q5 : INB p5 0 = true := INB_of (Int.le_refl 0) hz
        simp only [hd, q3, he, q5, ro h, cond_true, cond_false]
        repeat' (first | refine okO_bif (fun _ => ?_) (fun _ => ?_) | exact nx h _)
      · have he := decide_eq_false hz
        simp only [hd, q3, he, ro h, cond_true, cond_false]
        repeat' (first | refine okO_bif (fun _ => ?_) (fun _ => ?_) | exact nx h _))
noncomputable def L_gen_Pixels : List Value → List Value := Classical.choose (veil fun vs => (evFM ⟨[], [LC_gen_Pixels_3]⟩ Tryz.prog [S_gen_Mod, S_gen_Pixel] 1000 6 (inL A_gen_Pixels vs) R_gen_Pixels).outL)
theorem L_gen_Pixels_is (vs : List Value) : L_gen_Pixels vs = (evFM ⟨[], [LC_gen_Pixels_3]⟩ Tryz.prog [S_gen_Mod, S_gen_Pixel] 1000 6 (inL A_gen_Pixels vs) R_gen_Pixels).outL := Classical.choose_spec (veil fun vs => (evFM ⟨[], [LC_gen_Pixels_3]⟩ Tryz.prog [S_gen_Mod, S_gen_Pixel] 1000 6 (inL A_gen_Pixels vs) R_gen_Pixels).outL) vs
def pre_gen_Pixels (xs : List Value) : Bool := decide (0 ≤ num (xs.getD 2 undef)) && decide (num (xs.getD 2 undef) ≤ 1000)
noncomputable def C_gen_Pixels : CSum := ⟨6, L_gen_Pixels, pre_gen_Pixels, A_gen_Pixels, R_gen_Pixels⟩
theorem env_gen_Pixels : EnvOK Tryz.prog InvN ⟨[], [LC_gen_Pixels_3]⟩ ∧ AllOK Tryz.prog InvN [S_gen_Mod, S_gen_Pixel] := ⟨⟨allC_nil, (allL_cons ok_gen_Pixels_3 allL_nil)⟩, (allOK_cons ok_gen_Mod.any (allOK_cons ok_gen_Pixel allOK_nil))⟩
theorem okG_gen_Pixels (vs : List Value) : (evFM ⟨[], [LC_gen_Pixels_3]⟩ Tryz.prog [S_gen_Mod, S_gen_Pixel] 1000 6 (inL A_gen_Pixels vs) R_gen_Pixels).goodX R_gen_Pixels = true := by kernel_rfl
theorem okB_gen_Pixels (p0 : Int) (p1 : Value) (p2 : Int) (p3 : Int) : (evFM ⟨[], [LC_gen_Pixels_3]⟩ Tryz.prog [S_gen_Mod, S_gen_Pixel] 1000 6 (inL A_gen_Pixels [.int .i64 p0, p1, .int .i64 p2, .int .u16 p3]) R_gen_Pixels).ok =
    bif (pre_gen_Pixels_3 [.int .i64 p2, .int .u16 p3, .int .i64 0, .int .i64 p0, p1, NILV]) then
      (true)
    else
      (false) := (okR_eq _).trans (by kernel_rfl)
theorem okA_gen_Pixels (h : ∀ p0 p1 p2 p3 , IntKind.i64.min ≤ p0 → p0 ≤ IntKind.i64.max → inKind (.l [.i .i64, .i .i64, .i .i64, .i .i64, .i .i64]) p1 → IntKind.i64.min ≤ p2 → p2 ≤ IntKind.i64.max → IntKind.u16.min ≤ p3 → p3 ≤ IntKind.u16.max → pre_gen_Pixels [.int .i64 p0, p1, .int .i64 p2, .int .u16 p3] = true → (evFM ⟨[], [LC_gen_Pixels_3]⟩ Tryz.prog [S_gen_Mod, S_gen_Pixel] 1000 6 (inL A_gen_Pixels [.int .i64 p0, p1, .int .i64 p2, .int .u16 p3]) R_gen_Pixels).ok = true) : CSumOK Tryz.prog InvN C_gen_Pixels := csumOK_partV invN_stays env_gen_Pixels.1 env_gen_Pixels.2 1000 6 A_gen_Pixels R_gen_Pixels L_gen_Pixels_is pre_gen_Pixels okG_gen_Pixels (fun vs hk hp => by
  obtain ⟨_, _, rfl, ⟨p0, rfl, p0lo, p0hi⟩, p1, _, rfl, p1k, _, _, rfl, ⟨p2, rfl, p2lo, p2hi⟩, _, _, rfl, ⟨p3, rfl, p3lo, p3hi⟩, rfl⟩ := hk
  exact h p0 p1 p2 p3 p0lo p0hi p1k p2lo p2hi p3lo p3hi hp)
theorem ok_gen_Pixels : CSumOK Tryz.prog InvN C_gen_Pixels := okA_gen_Pixels (by
  intro p0 p1 p2 p3 _ _ _ _ _ _ _ hp
  have hp : (decide (0 ≤ p2) && decide (p2 ≤ 1000)) = true := hp
  simp only [Bool.and_eq_true, decide_eq_true_eq] at hp
  rw [okB_gen_Pixels]
  have key : pre_gen_Pixels_3 [.int .i64 p2, .int .u16 p3, .int .i64 0, .int .i64 p0, p1, NILV] = true := by
    show (decide ((0 : Int) ≤ 0) && decide (0 ≤ p2) && decide (LN NILV = 0) && decide (p2 ≤ 1000)) = true
    simp only [Bool.and_eq_true, decide_eq_true_eq]
    refine ⟨⟨⟨?_, ?_⟩, ?_⟩, ?_⟩ <;> first | trivial | omega | rfl | exact LN_nonneg _
  rw [key]
  rfl)
noncomputable def F_gen_Pixels (p0 : Int) (p1 : Value) (p2 : Int) (p3 : Int) : Value := (L_gen_Pixels [.int .i64 p0, p1, .int .i64 p2, .int .u16 p3]).getD 0 undef
theorem F_gen_Pixels_eq (p0 : Int) (p1 : Value) (p2 : Int) (p3 : Int) : F_gen_Pixels p0 p1 p2 p3 =
    bif (pre_gen_Pixels_3 [.int .i64 p2, .int .u16 p3, .int .i64 0, .int .i64 p0, p1, NILV]) then
      (let x0 := LF_gen_Pixels_3 [.int .i64 p2, .int .u16 p3, .int .i64 0, .int .i64 p0, p1, NILV]
      (x0.getD 1 undef))
    else
      (undef) :=
  spellV (L := L_gen_Pixels) (fun l => (l).getD 0 undef) (evFM ⟨[], [LC_gen_Pixels_3]⟩ Tryz.prog [S_gen_Mod, S_gen_Pixel] 1000 6 (inL A_gen_Pixels [.int .i64 p0, p1, .int .i64 p2, .int .u16 p3]) R_gen_Pixels) (L_gen_Pixels_is _) (by kernel_rfl)

/-! compositor/span.Step -/
def A_span_Step : List PS := [.c (.b), .c (.i .i64), .c (.i .i64), .c (.i .u16), .c (.l [.i .u16, .i .u16, .i .u16, .i .u16, .i .u16]), .c (.l [.i .u16, .i .u16, .i .u16, .i .u16, .i .u16, .i .u16]), .c (.l [.i .u16, .i .u16, .i .u16, .i .u16, .i .u16])]
def R_span_Step : RS := .tup [.c (.l [.i .u16, .i .u16, .i .u16, .i .u16, .i .u16, .i .u16]), .c (.b)]
def pre_span_Step_5 (xs : List Value) : Bool := decide ((num (xs.getD 7 undef)) = LN (xs.getD 4 undef)) && decide (LN (xs.getD 5 undef) = LN (xs.getD 4 undef)) && decide (LN (xs.getD 6 undef) = LN (xs.getD 4 undef)) && decide (0 ≤ (num (xs.getD 8 undef))) && decide ((num (xs.getD 8 undef)) ≤ (num (xs.getD 7 undef))) && decide (LN (xs.getD 9 undef) = (num (xs.getD 8 undef))) && decide ((num (xs.getD 7 undef)) ≤ 1000)
def pre_span_Step (xs : List Value) : Bool := decide (LN (xs.getD 4 undef) ≤ 1000)

/-! compositor/compositorlaw16.awake -/
def A_law16_awake : List PS := []
def R_law16_awake : RS := .one (.c (.b))
noncomputable def L_law16_awake : List Value → List Value := Classical.choose (veil fun vs => (evFM ⟨[C_span_Composite], []⟩ Tryz.prog [S_span_Classify] 1000 11 (inL A_law16_awake vs) R_law16_awake).outL)
theorem L_law16_awake_is (vs : List Value) : L_law16_awake vs = (evFM ⟨[C_span_Composite], []⟩ Tryz.prog [S_span_Classify] 1000 11 (inL A_law16_awake vs) R_law16_awake).outL := Classical.choose_spec (veil fun vs => (evFM ⟨[C_span_Composite], []⟩ Tryz.prog [S_span_Classify] 1000 11 (inL A_law16_awake vs) R_law16_awake).outL) vs
noncomputable def S_law16_awake : Sum := ⟨11, L_law16_awake, A_law16_awake, R_law16_awake⟩
theorem env_law16_awake : EnvOK Tryz.prog InvN ⟨[C_span_Composite], []⟩ ∧ AllOK Tryz.prog InvN [S_span_Classify] := ⟨⟨(allC_cons ok_span_Composite allC_nil), allL_nil⟩, (allOK_cons ok_span_Classify allOK_nil)⟩
theorem okG_law16_awake (vs : List Value) : (evFM ⟨[C_span_Composite], []⟩ Tryz.prog [S_span_Classify] 1000 11 (inL A_law16_awake vs) R_law16_awake).goodX R_law16_awake = true := by kernel_rfl
theorem okB_law16_awake : (evFM ⟨[C_span_Composite], []⟩ Tryz.prog [S_span_Classify] 1000 11 (inL A_law16_awake []) R_law16_awake).ok =
    bif (pre_span_Composite [.int .i64 4, .int .i64 1, .int .u16 255, (LSV 5 1 [.int .u16 0, .int .u16 0, .int .u16 0, .int .u16 255, .int .u16 255]), (LSV 5 1 [.int .u16 0, .int .u16 0, .int .u16 0, .int .u16 0, .int .u16 0])]) then
      (let x0 := F_span_Classify (LSV 5 2 [.int .u16 0, .int .u16 0, .int .u16 0, .int .u16 255, .int .u16 255, .int .u16 0, .int .u16 0, .int .u16 0, .int .u16 255, .int .u16 255]) 255
      bif (x0 == 2) then
        (let x1 := F_span_Classify NILV 255
        bif (x1 == 1) then
          (let x2 := F_span_Composite 4 1 255 (LSV 5 1 [.int .u16 0, .int .u16 0, .int .u16 0, .int .u16 255, .int .u16 255]) (LSV 5 1 [.int .u16 0, .int .u16 0, .int .u16 0, .int .u16 0, .int .u16 0])
          bif x2.2 then
            (bif ((LN x2.1) == 1) then
              (bif (INB x2.1 0) then
                (true)
              else
                (false))
            else
              (true))
          else
            (true))
        else
          (true))
      else
        (true))
    else
      (false) := (okR_eq _).trans (by kernel_rfl)
theorem okA_law16_awake (h : (evFM ⟨[C_span_Composite], []⟩ Tryz.prog [S_span_Classify] 1000 11 (inL A_law16_awake []) R_law16_awake).ok = true) : SumOK Tryz.prog InvN S_law16_awake := sumOK_partL invN_stays env_law16_awake.1 env_law16_awake.2 1000 11 A_law16_awake R_law16_awake L_law16_awake_is okG_law16_awake (fun vs hk => by
  obtain ⟨rfl⟩ := hk
  exact h)
theorem ok_law16_awake : SumOK Tryz.prog InvN S_law16_awake := okA_law16_awake (by
  rw [okB_law16_awake]
  refine bif_ok (fun _ => bif_ok (fun _ => bif_ok (fun _ => bif_ok (fun _ => bif_ok (fun h => ?_) (fun _ => rfl)) (fun _ => rfl)) (fun _ => rfl)) (fun _ => rfl)) (fun h => Bool.noConfusion (show true = false from h))
  rw [INB_of (Int.le_refl 0) (by rw [eq_of_beq h]; decide)]
  rfl)
noncomputable def F_law16_awake : Bool := tru ((L_law16_awake []).getD 0 undef)
theorem F_law16_awake_eq : F_law16_awake =
    bif (pre_span_Composite [.int .i64 4, .int .i64 1, .int .u16 255, (LSV 5 1 [.int .u16 0, .int .u16 0, .int .u16 0, .int .u16 255, .int .u16 255]), (LSV 5 1 [.int .u16 0, .int .u16 0, .int .u16 0, .int .u16 0, .int .u16 0])]) then
      (let x0 := F_span_Classify (LSV 5 2 [.int .u16 0, .int .u16 0, .int .u16 0, .int .u16 255, .int .u16 255, .int .u16 0, .int .u16 0, .int .u16 0, .int .u16 255, .int .u16 255]) 255
      bif (x0 == 2) then
        (let x1 := F_span_Classify NILV 255
        bif (x1 == 1) then
          (let x2 := F_span_Composite 4 1 255 (LSV 5 1 [.int .u16 0, .int .u16 0, .int .u16 0, .int .u16 255, .int .u16 255]) (LSV 5 1 [.int .u16 0, .int .u16 0, .int .u16 0, .int .u16 0, .int .u16 0])
          bif x2.2 then
            (bif ((LN x2.1) == 1) then
              (bif (INB x2.1 0) then
                (((((num (CV (IX x2.1 0) 0)) == 0) && (((num (CV (IX x2.1 0) 1)) == 0) && ((num (CV (IX x2.1 0) 2)) == 0))) && (((num (CV (IX x2.1 0) 3)) == 255) && ((num (CV (IX x2.1 0) 4)) == 255))))
              else
                ((tru undef)))
            else
              (false))
          else
            (false))
        else
          (false))
      else
        (false))
    else
      ((tru undef)) :=
  spellV (L := L_law16_awake) (fun l => tru ((l).getD 0 undef)) (evFM ⟨[C_span_Composite], []⟩ Tryz.prog [S_span_Classify] 1000 11 (inL A_law16_awake []) R_law16_awake) (L_law16_awake_is _) (by kernel_rfl)
end Go.Proofs.YtfjhhadmncjdiaaGreatDoor
