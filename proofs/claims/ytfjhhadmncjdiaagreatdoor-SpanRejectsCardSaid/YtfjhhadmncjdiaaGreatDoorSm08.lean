/- What the functions of the chapters 07 and 08 compute. Printed by a program (gen/Gen.lean); what each function does is told by the evaluator, and the kernel checks it. No condition. -/
import Derived.Test.YtfjhhadmncjdiaaGreatDoorRules
import Derived.Test.YtfjhhadmncjdiaaGreatDoorSm10
import Derived.Test.YtfjhhadmncjdiaaGreatDoorLaw03
import Derived.KernelRfl
namespace Go.Proofs.YtfjhhadmncjdiaaGreatDoor
open Go.RowKit

/-! compositor/operator.factor -/
def A_operator_factor : List PS := [.c (.i .i64), .c (.i .u16), .c (.i .u16)]
def R_operator_factor : RS := .one (.c (.i .u16))
noncomputable def L_operator_factor : List Value → List Value := Classical.choose (veil fun vs => (evF Tryz.prog [] 1000 67 (inL A_operator_factor vs)).outL)
theorem L_operator_factor_is (vs : List Value) : L_operator_factor vs = (evF Tryz.prog [] 1000 67 (inL A_operator_factor vs)).outL := Classical.choose_spec (veil fun vs => (evF Tryz.prog [] 1000 67 (inL A_operator_factor vs)).outL) vs
noncomputable def S_operator_factor : Sum := ⟨67, L_operator_factor, A_operator_factor, R_operator_factor⟩
theorem ok_operator_factor : SumOK Tryz.prog InvN S_operator_factor := sumOK_evV invN_stays allOK_nil 1000 67 A_operator_factor R_operator_factor L_operator_factor_is (fun _ => by kernel_rfl)
noncomputable def F_operator_factor (p0 : Int) (p1 : Int) (p2 : Int) : Int := num ((L_operator_factor [.int .i64 p0, .int .u16 p1, .int .u16 p2]).getD 0 undef)
theorem F_operator_factor_eq (p0 : Int) (p1 : Int) (p2 : Int) : F_operator_factor p0 p1 p2 =
    bif (p0 == 1) then
      (p2)
    else
      (bif (p0 == 2) then
        (p1)
      else
        (bif (p0 == 3) then
          ((IntKind.u16.wrap (p2 - p1)))
        else
          (0))) :=
  spellV (L := L_operator_factor) (fun l => num ((l).getD 0 undef)) (evF Tryz.prog [] 1000 67 (inL A_operator_factor [.int .i64 p0, .int .u16 p1, .int .u16 p2])) (L_operator_factor_is _) (by kernel_rfl)

/-! compositor/operator.Factors -/
def A_operator_Factors : List PS := [.c (.i .i64), .c (.i .u16), .c (.i .u16), .c (.i .u16)]
def R_operator_Factors : RS := .tup [.c (.i .u16), .c (.i .u16), .c (.b)]
noncomputable def L_operator_Factors : List Value → List Value := Classical.choose (veil fun vs => (evF Tryz.prog [S_operator_find, S_operator_factor] 1000 52 (inL A_operator_Factors vs)).outL)
theorem L_operator_Factors_is (vs : List Value) : L_operator_Factors vs = (evF Tryz.prog [S_operator_find, S_operator_factor] 1000 52 (inL A_operator_Factors vs)).outL := Classical.choose_spec (veil fun vs => (evF Tryz.prog [S_operator_find, S_operator_factor] 1000 52 (inL A_operator_Factors vs)).outL) vs
noncomputable def S_operator_Factors : Sum := ⟨52, L_operator_Factors, A_operator_Factors, R_operator_Factors⟩
theorem ok_operator_Factors : SumOK Tryz.prog InvN S_operator_Factors := sumOK_evV invN_stays (allOK_cons ok_operator_find (allOK_cons ok_operator_factor allOK_nil)) 1000 52 A_operator_Factors R_operator_Factors L_operator_Factors_is (fun _ => by kernel_rfl)
noncomputable def F_operator_Factors (p0 : Int) (p1 : Int) (p2 : Int) (p3 : Int) : Int × Int × Bool := (num ((L_operator_Factors [.int .i64 p0, .int .u16 p1, .int .u16 p2, .int .u16 p3]).getD 0 undef), num ((L_operator_Factors [.int .i64 p0, .int .u16 p1, .int .u16 p2, .int .u16 p3]).getD 1 undef), tru ((L_operator_Factors [.int .i64 p0, .int .u16 p1, .int .u16 p2, .int .u16 p3]).getD 2 undef))
theorem F_operator_Factors_eq (p0 : Int) (p1 : Int) (p2 : Int) (p3 : Int) : F_operator_Factors p0 p1 p2 p3 =
    let x0 := F_operator_find p0
    bif (!x0.2.2.2.2) then
      ((0, 0, false))
    else
      (bif (decide (p1 > p3)) then
        ((0, 0, false))
      else
        (bif (decide (p2 > p3)) then
          ((0, 0, false))
        else
          (let x1 := F_operator_factor x0.2.1 p2 p3
          let x2 := F_operator_factor x0.2.2.1 p1 p3
          (x1, x2, true)))) :=
  spellV (L := L_operator_Factors) (fun l => (num ((l).getD 0 undef), num ((l).getD 1 undef), tru ((l).getD 2 undef))) (evF Tryz.prog [S_operator_find, S_operator_factor] 1000 52 (inL A_operator_Factors [.int .i64 p0, .int .u16 p1, .int .u16 p2, .int .u16 p3])) (L_operator_Factors_is _) (by kernel_rfl)

/-! compositor/operator.sum -/
def A_operator_sum : List PS := [.c (.i .u16), .c (.i .u16), .c (.i .u16), .c (.i .u16), .c (.i .u16)]
def R_operator_sum : RS := .one (.c (.i .u16))
noncomputable def L_operator_sum : List Value → List Value := Classical.choose (veil fun vs => (evF Tryz.prog [S_round_Half] 1000 53 (inL A_operator_sum vs)).outL)
theorem L_operator_sum_is (vs : List Value) : L_operator_sum vs = (evF Tryz.prog [S_round_Half] 1000 53 (inL A_operator_sum vs)).outL := Classical.choose_spec (veil fun vs => (evF Tryz.prog [S_round_Half] 1000 53 (inL A_operator_sum vs)).outL) vs
noncomputable def S_operator_sum : Sum := ⟨53, L_operator_sum, A_operator_sum, R_operator_sum⟩
theorem ok_operator_sum : SumOK Tryz.prog InvN S_operator_sum := sumOK_evV invN_stays (allOK_cons ok_round_Half.any allOK_nil) 1000 53 A_operator_sum R_operator_sum L_operator_sum_is (fun _ => by kernel_rfl)
noncomputable def F_operator_sum (p0 : Int) (p1 : Int) (p2 : Int) (p3 : Int) (p4 : Int) : Int := num ((L_operator_sum [.int .u16 p0, .int .u16 p1, .int .u16 p2, .int .u16 p3, .int .u16 p4]).getD 0 undef)
theorem F_operator_sum_eq (p0 : Int) (p1 : Int) (p2 : Int) (p3 : Int) (p4 : Int) : F_operator_sum p0 p1 p2 p3 p4 =
    let x0 := F_round_Half (IntKind.u64.wrap ((IntKind.u64.wrap (p0 * p1)) + (IntKind.u64.wrap (p2 * p3)))) p4
    (IntKind.u16.wrap x0) :=
  spellV (L := L_operator_sum) (fun l => num ((l).getD 0 undef)) (evF Tryz.prog [S_round_Half] 1000 53 (inL A_operator_sum [.int .u16 p0, .int .u16 p1, .int .u16 p2, .int .u16 p3, .int .u16 p4])) (L_operator_sum_is _) (by kernel_rfl)

/-! compositor/operator.Alpha -/
def A_operator_Alpha : List PS := [.c (.i .i64), .c (.i .u16), .c (.i .u16), .c (.i .u16)]
def R_operator_Alpha : RS := .one (.c (.i .u16))
noncomputable def L_operator_Alpha : List Value → List Value := Classical.choose (veil fun vs => (evF Tryz.prog [S_operator_Factors, S_operator_sum] 1000 38 (inL A_operator_Alpha vs)).outL)
theorem L_operator_Alpha_is (vs : List Value) : L_operator_Alpha vs = (evF Tryz.prog [S_operator_Factors, S_operator_sum] 1000 38 (inL A_operator_Alpha vs)).outL := Classical.choose_spec (veil fun vs => (evF Tryz.prog [S_operator_Factors, S_operator_sum] 1000 38 (inL A_operator_Alpha vs)).outL) vs
noncomputable def S_operator_Alpha : Sum := ⟨38, L_operator_Alpha, A_operator_Alpha, R_operator_Alpha⟩
theorem ok_operator_Alpha : SumOK Tryz.prog InvN S_operator_Alpha := sumOK_evV invN_stays (allOK_cons ok_operator_Factors (allOK_cons ok_operator_sum allOK_nil)) 1000 38 A_operator_Alpha R_operator_Alpha L_operator_Alpha_is (fun _ => by kernel_rfl)
noncomputable def F_operator_Alpha (p0 : Int) (p1 : Int) (p2 : Int) (p3 : Int) : Int := num ((L_operator_Alpha [.int .i64 p0, .int .u16 p1, .int .u16 p2, .int .u16 p3]).getD 0 undef)
theorem F_operator_Alpha_eq (p0 : Int) (p1 : Int) (p2 : Int) (p3 : Int) : F_operator_Alpha p0 p1 p2 p3 =
    let x0 := F_operator_Factors p0 p1 p2 p3
    let x1 := F_operator_sum x0.1 p1 x0.2.1 p2 p3
    x1 :=
  spellV (L := L_operator_Alpha) (fun l => num ((l).getD 0 undef)) (evF Tryz.prog [S_operator_Factors, S_operator_sum] 1000 38 (inL A_operator_Alpha [.int .i64 p0, .int .u16 p1, .int .u16 p2, .int .u16 p3])) (L_operator_Alpha_is _) (by kernel_rfl)

/-! compositor/operator.Shape -/
def A_operator_Shape : List PS := [.c (.i .i64), .c (.i .u16), .c (.i .u16), .c (.i .u16)]
def R_operator_Shape : RS := .one (.c (.i .u16))
noncomputable def L_operator_Shape : List Value → List Value := Classical.choose (veil fun vs => (evF Tryz.prog [S_operator_find, S_operator_sum] 1000 39 (inL A_operator_Shape vs)).outL)
theorem L_operator_Shape_is (vs : List Value) : L_operator_Shape vs = (evF Tryz.prog [S_operator_find, S_operator_sum] 1000 39 (inL A_operator_Shape vs)).outL := Classical.choose_spec (veil fun vs => (evF Tryz.prog [S_operator_find, S_operator_sum] 1000 39 (inL A_operator_Shape vs)).outL) vs
noncomputable def S_operator_Shape : Sum := ⟨39, L_operator_Shape, A_operator_Shape, R_operator_Shape⟩
theorem ok_operator_Shape : SumOK Tryz.prog InvN S_operator_Shape := sumOK_evV invN_stays (allOK_cons ok_operator_find (allOK_cons ok_operator_sum allOK_nil)) 1000 39 A_operator_Shape R_operator_Shape L_operator_Shape_is (fun _ => by kernel_rfl)
noncomputable def F_operator_Shape (p0 : Int) (p1 : Int) (p2 : Int) (p3 : Int) : Int := num ((L_operator_Shape [.int .i64 p0, .int .u16 p1, .int .u16 p2, .int .u16 p3]).getD 0 undef)
theorem F_operator_Shape_eq (p0 : Int) (p1 : Int) (p2 : Int) (p3 : Int) : F_operator_Shape p0 p1 p2 p3 =
    bif (decide (p1 > p3)) then
      (0)
    else
      (bif (decide (p2 > p3)) then
        (0)
      else
        (bif (p3 == 0) then
          (0)
        else
          (let x0 := F_operator_find p0
          bif (x0.2.2.2.1 == 1) then
            (p1)
          else
            (bif (x0.2.2.2.1 == 2) then
              (p2)
            else
              (bif (x0.2.2.2.1 == 3) then
                (let x1 := F_operator_sum p3 p1 (IntKind.u16.wrap (p3 - p1)) p2 p3
                x1)
              else
                (bif (x0.2.2.2.1 == 4) then
                  (let x2 := F_operator_sum p1 p2 0 0 p3
                  x2)
                else
                  (0))))))) :=
  spellV (L := L_operator_Shape) (fun l => num ((l).getD 0 undef)) (evF Tryz.prog [S_operator_find, S_operator_sum] 1000 39 (inL A_operator_Shape [.int .i64 p0, .int .u16 p1, .int .u16 p2, .int .u16 p3])) (L_operator_Shape_is _) (by kernel_rfl)

/-! compositor/mix.Value -/
def A_mix_Value : List PS := [.c (.i .i64), .c (.i .i64), .c (.i .u16), .c (.i .u16), .c (.i .u16), .c (.i .u16), .c (.i .u16)]
def R_mix_Value : RS := .tup [.agg [.i .u64, .i .u64, .i .u64, .i .u64, .i .u64], .c (.b)]
noncomputable def L_mix_Value : List Value → List Value := Classical.choose (veil fun vs => (evF Tryz.prog [S_wide_Add, S_wide_Mul, S_blend_Exact, S_operator_Factors] 1000 50 (inL A_mix_Value vs)).outL)
theorem L_mix_Value_is (vs : List Value) : L_mix_Value vs = (evF Tryz.prog [S_wide_Add, S_wide_Mul, S_blend_Exact, S_operator_Factors] 1000 50 (inL A_mix_Value vs)).outL := Classical.choose_spec (veil fun vs => (evF Tryz.prog [S_wide_Add, S_wide_Mul, S_blend_Exact, S_operator_Factors] 1000 50 (inL A_mix_Value vs)).outL) vs
noncomputable def S_mix_Value : Sum := ⟨50, L_mix_Value, A_mix_Value, R_mix_Value⟩
theorem ok_mix_Value : SumOK Tryz.prog InvN S_mix_Value := sumOK_evV invN_stays (allOK_cons ok_wide_Add.any (allOK_cons ok_wide_Mul.any (allOK_cons ok_blend_Exact.any (allOK_cons ok_operator_Factors allOK_nil)))) 1000 50 A_mix_Value R_mix_Value L_mix_Value_is (fun _ => by kernel_rfl)
noncomputable def F_mix_Value (p0 : Int) (p1 : Int) (p2 : Int) (p3 : Int) (p4 : Int) (p5 : Int) (p6 : Int) : Int × Int × Int × Int × Int × Bool := (num ((L_mix_Value [.int .i64 p0, .int .i64 p1, .int .u16 p2, .int .u16 p3, .int .u16 p4, .int .u16 p5, .int .u16 p6]).getD 0 undef), num ((L_mix_Value [.int .i64 p0, .int .i64 p1, .int .u16 p2, .int .u16 p3, .int .u16 p4, .int .u16 p5, .int .u16 p6]).getD 1 undef), num ((L_mix_Value [.int .i64 p0, .int .i64 p1, .int .u16 p2, .int .u16 p3, .int .u16 p4, .int .u16 p5, .int .u16 p6]).getD 2 undef), num ((L_mix_Value [.int .i64 p0, .int .i64 p1, .int .u16 p2, .int .u16 p3, .int .u16 p4, .int .u16 p5, .int .u16 p6]).getD 3 undef), num ((L_mix_Value [.int .i64 p0, .int .i64 p1, .int .u16 p2, .int .u16 p3, .int .u16 p4, .int .u16 p5, .int .u16 p6]).getD 4 undef), tru ((L_mix_Value [.int .i64 p0, .int .i64 p1, .int .u16 p2, .int .u16 p3, .int .u16 p4, .int .u16 p5, .int .u16 p6]).getD 5 undef))
theorem F_mix_Value_eq (p0 : Int) (p1 : Int) (p2 : Int) (p3 : Int) (p4 : Int) (p5 : Int) (p6 : Int) : F_mix_Value p0 p1 p2 p3 p4 p5 p6 =
    let x0 := F_operator_Factors p0 p4 p6 p2
    bif (!x0.2.2) then
      ((0, 0, 0, 0, 0, false))
    else
      (let x1 := F_blend_Exact p1 p3 p4 p5 p6
      bif (!x1.2.2.2.2.2) then
        ((0, 0, 0, 0, 0, false))
      else
        (bif (p2 != 255) then
          (bif (p2 != 65535) then
            ((0, 0, 0, 0, 0, false))
          else
            (let x2 := F_wide_Mul (IntKind.u64.wrap ((IntKind.u64.wrap ((IntKind.u64.wrap ((IntKind.u16.wrap (p2 - p6)) * p3)) * x1.2.2.2.2.1)) + x1.2.1)) x0.1
            let x3 := F_wide_Mul (IntKind.u64.wrap ((IntKind.u64.wrap (p5 * p2)) * x1.2.2.2.2.1)) x0.2.1
            let x4 := F_wide_Add x2.1 x2.2 x3.1 x3.2
            (x4.1, x4.2.1, (IntKind.u64.wrap (x0.1 * x1.2.2.1)), x1.2.2.2.1, (IntKind.u64.wrap ((IntKind.u64.wrap (p2 * p2)) * x1.2.2.2.2.1)), true)))
        else
          (let x5 := F_wide_Mul (IntKind.u64.wrap ((IntKind.u64.wrap ((IntKind.u64.wrap ((IntKind.u16.wrap (p2 - p6)) * p3)) * x1.2.2.2.2.1)) + x1.2.1)) x0.1
          let x6 := F_wide_Mul (IntKind.u64.wrap ((IntKind.u64.wrap (p5 * p2)) * x1.2.2.2.2.1)) x0.2.1
          let x7 := F_wide_Add x5.1 x5.2 x6.1 x6.2
          (x7.1, x7.2.1, (IntKind.u64.wrap (x0.1 * x1.2.2.1)), x1.2.2.2.1, (IntKind.u64.wrap ((IntKind.u64.wrap (p2 * p2)) * x1.2.2.2.2.1)), true)))) :=
  spellV (L := L_mix_Value) (fun l => (num ((l).getD 0 undef), num ((l).getD 1 undef), num ((l).getD 2 undef), num ((l).getD 3 undef), num ((l).getD 4 undef), tru ((l).getD 5 undef))) (evF Tryz.prog [S_wide_Add, S_wide_Mul, S_blend_Exact, S_operator_Factors] 1000 50 (inL A_mix_Value [.int .i64 p0, .int .i64 p1, .int .u16 p2, .int .u16 p3, .int .u16 p4, .int .u16 p5, .int .u16 p6])) (L_mix_Value_is _) (by kernel_rfl)

/-! compositor/mix.Color -/
def A_mix_Color : List PS := [.c (.i .i64), .c (.i .i64), .c (.i .u16), .c (.i .u16), .c (.i .u16), .c (.i .u16), .c (.i .u16)]
def R_mix_Color : RS := .tup [.c (.i .u16), .c (.b)]
noncomputable def L_mix_Color : List Value → List Value := Classical.choose (veil fun vs => (evF Tryz.prog [S_surd_Half, S_mix_Value] 1000 37 (inL A_mix_Color vs)).outL)
theorem L_mix_Color_is (vs : List Value) : L_mix_Color vs = (evF Tryz.prog [S_surd_Half, S_mix_Value] 1000 37 (inL A_mix_Color vs)).outL := Classical.choose_spec (veil fun vs => (evF Tryz.prog [S_surd_Half, S_mix_Value] 1000 37 (inL A_mix_Color vs)).outL) vs
noncomputable def S_mix_Color : Sum := ⟨37, L_mix_Color, A_mix_Color, R_mix_Color⟩
theorem ok_mix_Color : SumOK Tryz.prog InvN S_mix_Color := sumOK_evV invN_stays (allOK_cons ok_surd_Half.any (allOK_cons ok_mix_Value allOK_nil)) 1000 37 A_mix_Color R_mix_Color L_mix_Color_is (fun _ => by kernel_rfl)
noncomputable def F_mix_Color (p0 : Int) (p1 : Int) (p2 : Int) (p3 : Int) (p4 : Int) (p5 : Int) (p6 : Int) : Int × Bool := (num ((L_mix_Color [.int .i64 p0, .int .i64 p1, .int .u16 p2, .int .u16 p3, .int .u16 p4, .int .u16 p5, .int .u16 p6]).getD 0 undef), tru ((L_mix_Color [.int .i64 p0, .int .i64 p1, .int .u16 p2, .int .u16 p3, .int .u16 p4, .int .u16 p5, .int .u16 p6]).getD 1 undef))
theorem F_mix_Color_eq (p0 : Int) (p1 : Int) (p2 : Int) (p3 : Int) (p4 : Int) (p5 : Int) (p6 : Int) : F_mix_Color p0 p1 p2 p3 p4 p5 p6 =
    let x0 := F_mix_Value p0 p1 p2 p3 p4 p5 p6
    bif (!x0.2.2.2.2.2) then
      ((0, false))
    else
      (let x1 := F_surd_Half x0.1 x0.2.1 x0.2.2.1 x0.2.2.2.1 x0.2.2.2.2.1
      ((IntKind.u16.wrap x1.1), x1.2)) :=
  spellV (L := L_mix_Color) (fun l => (num ((l).getD 0 undef), tru ((l).getD 1 undef))) (evF Tryz.prog [S_surd_Half, S_mix_Value] 1000 37 (inL A_mix_Color [.int .i64 p0, .int .i64 p1, .int .u16 p2, .int .u16 p3, .int .u16 p4, .int .u16 p5, .int .u16 p6])) (L_mix_Color_is _) (by kernel_rfl)

/-! compositor/compositorref06.OpName -/
def A_ref06_OpName : List PS := [.c (.i .i64)]
def R_ref06_OpName : RS := .one (.c (.s))
noncomputable def L_ref06_OpName : List Value → List Value := Classical.choose (veil fun vs => (evF Tryz.prog [] 1000 56 (inL A_ref06_OpName vs)).outL)
theorem L_ref06_OpName_is (vs : List Value) : L_ref06_OpName vs = (evF Tryz.prog [] 1000 56 (inL A_ref06_OpName vs)).outL := Classical.choose_spec (veil fun vs => (evF Tryz.prog [] 1000 56 (inL A_ref06_OpName vs)).outL) vs
noncomputable def S_ref06_OpName : Sum := ⟨56, L_ref06_OpName, A_ref06_OpName, R_ref06_OpName⟩
theorem okB_ref06_OpName (p0 : Int) : (evF Tryz.prog [] 1000 56 (inL A_ref06_OpName [.int .i64 p0])).ok =
    bif (decide (p0 < 1)) then
      (true)
    else
      (bif (decide (p0 ≥ 13)) then
        (true)
      else
        (bif (p0 == 0) then
          (true)
        else
          (bif (p0 == 1) then
            (true)
          else
            (bif (p0 == 2) then
              (true)
            else
              (bif (p0 == 3) then
                (true)
              else
                (bif (p0 == 4) then
                  (true)
                else
                  (bif (p0 == 5) then
                    (true)
                  else
                    (bif (p0 == 6) then
                      (true)
                    else
                      (bif (p0 == 7) then
                        (true)
                      else
                        (bif (p0 == 8) then
                          (true)
                        else
                          (bif (p0 == 9) then
                            (true)
                          else
                            (bif (p0 == 10) then
                              (true)
                            else
                              (bif (p0 == 11) then
                                (true)
                              else
                                (bif (p0 == 12) then
                                  (true)
                                else
                                  (false))))))))))))))) := (okR_eq _).trans (by kernel_rfl)
theorem okA_ref06_OpName (h : ∀ p0 , IntKind.i64.min ≤ p0 → p0 ≤ IntKind.i64.max → (evF Tryz.prog [] 1000 56 (inL A_ref06_OpName [.int .i64 p0])).ok = true) : SumOK Tryz.prog InvN S_ref06_OpName := sumOK_partV invN_stays allOK_nil 1000 56 A_ref06_OpName R_ref06_OpName L_ref06_OpName_is (fun _ => by kernel_rfl) (fun vs hk => by
  obtain ⟨_, _, rfl, ⟨p0, rfl, p0lo, p0hi⟩, rfl⟩ := hk
  exact h p0 p0lo p0hi )
theorem ok_ref06_OpName : SumOK Tryz.prog InvN S_ref06_OpName := okA_ref06_OpName fun p0 _ _ => by
  rw [okB_ref06_OpName]
  by_cases h1 : p0 < 1
  · simp [h1]
  · by_cases h2 : p0 ≥ 13
    · simp [h2]
    · have h : p0 = 1 ∨ p0 = 2 ∨ p0 = 3 ∨ p0 = 4 ∨ p0 = 5 ∨ p0 = 6 ∨ p0 = 7 ∨ p0 = 8 ∨ p0 = 9 ∨ p0 = 10 ∨ p0 = 11 ∨ p0 = 12 := by omega
      rcases h with rfl | rfl | rfl | rfl | rfl | rfl | rfl | rfl | rfl | rfl | rfl | rfl <;> rfl
noncomputable def F_ref06_OpName (p0 : Int) : ByteArray := str ((L_ref06_OpName [.int .i64 p0]).getD 0 undef)
theorem F_ref06_OpName_eq (p0 : Int) : F_ref06_OpName p0 =
    bif (decide (p0 < 1)) then
      ((ByteArray.mk #[]))
    else
      (bif (decide (p0 ≥ 13)) then
        ((ByteArray.mk #[]))
      else
        (bif (p0 == 0) then
          ((ByteArray.mk #[]))
        else
          (bif (p0 == 1) then
            ((ByteArray.mk #[99, 108, 101, 97, 114]))
          else
            (bif (p0 == 2) then
              ((ByteArray.mk #[115, 114, 99]))
            else
              (bif (p0 == 3) then
                ((ByteArray.mk #[100, 115, 116]))
              else
                (bif (p0 == 4) then
                  ((ByteArray.mk #[115, 114, 99, 45, 111, 118, 101, 114]))
                else
                  (bif (p0 == 5) then
                    ((ByteArray.mk #[100, 115, 116, 45, 111, 118, 101, 114]))
                  else
                    (bif (p0 == 6) then
                      ((ByteArray.mk #[115, 114, 99, 45, 105, 110]))
                    else
                      (bif (p0 == 7) then
                        ((ByteArray.mk #[100, 115, 116, 45, 105, 110]))
                      else
                        (bif (p0 == 8) then
                          ((ByteArray.mk #[115, 114, 99, 45, 111, 117, 116]))
                        else
                          (bif (p0 == 9) then
                            ((ByteArray.mk #[100, 115, 116, 45, 111, 117, 116]))
                          else
                            (bif (p0 == 10) then
                              ((ByteArray.mk #[115, 114, 99, 45, 97, 116, 111, 112]))
                            else
                              (bif (p0 == 11) then
                                ((ByteArray.mk #[100, 115, 116, 45, 97, 116, 111, 112]))
                              else
                                (bif (p0 == 12) then
                                  ((ByteArray.mk #[120, 111, 114]))
                                else
                                  ((str undef)))))))))))))))) :=
  spellV (L := L_ref06_OpName) (fun l => str ((l).getD 0 undef)) (evF Tryz.prog [] 1000 56 (inL A_ref06_OpName [.int .i64 p0])) (L_ref06_OpName_is _) (by kernel_rfl)

/-! compositor/compositorref06.IsOp -/
def A_ref06_IsOp : List PS := [.c (.i .i64)]
def R_ref06_IsOp : RS := .one (.c (.b))
noncomputable def L_ref06_IsOp : List Value → List Value := Classical.choose (veil fun vs => (evF Tryz.prog [S_ref06_OpName] 1000 41 (inL A_ref06_IsOp vs)).outL)
theorem L_ref06_IsOp_is (vs : List Value) : L_ref06_IsOp vs = (evF Tryz.prog [S_ref06_OpName] 1000 41 (inL A_ref06_IsOp vs)).outL := Classical.choose_spec (veil fun vs => (evF Tryz.prog [S_ref06_OpName] 1000 41 (inL A_ref06_IsOp vs)).outL) vs
noncomputable def S_ref06_IsOp : Sum := ⟨41, L_ref06_IsOp, A_ref06_IsOp, R_ref06_IsOp⟩
theorem ok_ref06_IsOp : SumOK Tryz.prog InvN S_ref06_IsOp := sumOK_evV invN_stays (allOK_cons ok_ref06_OpName allOK_nil) 1000 41 A_ref06_IsOp R_ref06_IsOp L_ref06_IsOp_is (fun _ => by kernel_rfl)
noncomputable def F_ref06_IsOp (p0 : Int) : Bool := tru ((L_ref06_IsOp [.int .i64 p0]).getD 0 undef)
theorem F_ref06_IsOp_eq (p0 : Int) : F_ref06_IsOp p0 =
    let x0 := F_ref06_OpName p0
    (!(eqStr x0 (ByteArray.mk #[]))) :=
  spellV (L := L_ref06_IsOp) (fun l => tru ((l).getD 0 undef)) (evF Tryz.prog [S_ref06_OpName] 1000 41 (inL A_ref06_IsOp [.int .i64 p0])) (L_ref06_IsOp_is _) (by kernel_rfl)

/-! compositor/compositorref06.Factors -/
def A_ref06_Factors : List PS := [.c (.i .i64), .c (.i .u16), .c (.i .u16), .c (.i .u16)]
def R_ref06_Factors : RS := .tup [.c (.i .u16), .c (.i .u16), .c (.b)]
noncomputable def L_ref06_Factors : List Value → List Value := Classical.choose (veil fun vs => (evF Tryz.prog [S_ref06_IsOp] 1000 58 (inL A_ref06_Factors vs)).outL)
theorem L_ref06_Factors_is (vs : List Value) : L_ref06_Factors vs = (evF Tryz.prog [S_ref06_IsOp] 1000 58 (inL A_ref06_Factors vs)).outL := Classical.choose_spec (veil fun vs => (evF Tryz.prog [S_ref06_IsOp] 1000 58 (inL A_ref06_Factors vs)).outL) vs
noncomputable def S_ref06_Factors : Sum := ⟨58, L_ref06_Factors, A_ref06_Factors, R_ref06_Factors⟩
theorem ok_ref06_Factors : SumOK Tryz.prog InvN S_ref06_Factors := sumOK_evV invN_stays (allOK_cons ok_ref06_IsOp allOK_nil) 1000 58 A_ref06_Factors R_ref06_Factors L_ref06_Factors_is (fun _ => by kernel_rfl)
noncomputable def F_ref06_Factors (p0 : Int) (p1 : Int) (p2 : Int) (p3 : Int) : Int × Int × Bool := (num ((L_ref06_Factors [.int .i64 p0, .int .u16 p1, .int .u16 p2, .int .u16 p3]).getD 0 undef), num ((L_ref06_Factors [.int .i64 p0, .int .u16 p1, .int .u16 p2, .int .u16 p3]).getD 1 undef), tru ((L_ref06_Factors [.int .i64 p0, .int .u16 p1, .int .u16 p2, .int .u16 p3]).getD 2 undef))
theorem F_ref06_Factors_eq (p0 : Int) (p1 : Int) (p2 : Int) (p3 : Int) : F_ref06_Factors p0 p1 p2 p3 =
    let x0 := F_ref06_IsOp p0
    bif (!x0) then
      ((0, 0, false))
    else
      (bif (decide (p1 > p3)) then
        ((0, 0, false))
      else
        (bif (decide (p2 > p3)) then
          ((0, 0, false))
        else
          (bif (p0 == 2) then
            ((p3, 0, true))
          else
            (bif (p0 == 3) then
              ((0, p3, true))
            else
              (bif (p0 == 4) then
                ((p3, (IntKind.u16.wrap (p3 - p1)), true))
              else
                (bif (p0 == 5) then
                  (((IntKind.u16.wrap (p3 - p2)), p3, true))
                else
                  (bif (p0 == 6) then
                    ((p2, 0, true))
                  else
                    (bif (p0 == 7) then
                      ((0, p1, true))
                    else
                      (bif (p0 == 8) then
                        (((IntKind.u16.wrap (p3 - p2)), 0, true))
                      else
                        (bif (p0 == 9) then
                          ((0, (IntKind.u16.wrap (p3 - p1)), true))
                        else
                          (bif (p0 == 10) then
                            ((p2, (IntKind.u16.wrap (p3 - p1)), true))
                          else
                            (bif (p0 == 11) then
                              (((IntKind.u16.wrap (p3 - p2)), p1, true))
                            else
                              (bif (p0 == 12) then
                                (((IntKind.u16.wrap (p3 - p2)), (IntKind.u16.wrap (p3 - p1)), true))
                              else
                                ((0, 0, true))))))))))))))) :=
  spellV (L := L_ref06_Factors) (fun l => (num ((l).getD 0 undef), num ((l).getD 1 undef), tru ((l).getD 2 undef))) (evF Tryz.prog [S_ref06_IsOp] 1000 58 (inL A_ref06_Factors [.int .i64 p0, .int .u16 p1, .int .u16 p2, .int .u16 p3])) (L_ref06_Factors_is _) (by kernel_rfl)

/-! compositor/compositorref06.Value -/
def A_ref06_Value : List PS := [.c (.i .i64), .c (.i .i64), .c (.i .u16), .c (.i .u16), .c (.i .u16), .c (.i .u16), .c (.i .u16)]
def R_ref06_Value : RS := .tup [.agg [.i .u64, .i .u64, .i .u64, .i .u64, .i .u64], .c (.b)]
noncomputable def L_ref06_Value : List Value → List Value := Classical.choose (veil fun vs => (evF Tryz.prog [S_ref01_Add, S_ref01_MulSmall, S_ref06_wide, S_ref06_Blend, S_ref01_Full, S_ref06_Factors] 1000 60 (inL A_ref06_Value vs)).outL)
theorem L_ref06_Value_is (vs : List Value) : L_ref06_Value vs = (evF Tryz.prog [S_ref01_Add, S_ref01_MulSmall, S_ref06_wide, S_ref06_Blend, S_ref01_Full, S_ref06_Factors] 1000 60 (inL A_ref06_Value vs)).outL := Classical.choose_spec (veil fun vs => (evF Tryz.prog [S_ref01_Add, S_ref01_MulSmall, S_ref06_wide, S_ref06_Blend, S_ref01_Full, S_ref06_Factors] 1000 60 (inL A_ref06_Value vs)).outL) vs
noncomputable def S_ref06_Value : Sum := ⟨60, L_ref06_Value, A_ref06_Value, R_ref06_Value⟩
theorem ok_ref06_Value : SumOK Tryz.prog InvN S_ref06_Value := sumOK_evV invN_stays (allOK_cons ok_ref01_Add.any (allOK_cons ok_ref01_MulSmall.any (allOK_cons ok_ref06_wide.any (allOK_cons ok_ref06_Blend.any (allOK_cons ok_ref01_Full.any (allOK_cons ok_ref06_Factors allOK_nil)))))) 1000 60 A_ref06_Value R_ref06_Value L_ref06_Value_is (fun _ => by kernel_rfl)
noncomputable def F_ref06_Value (p0 : Int) (p1 : Int) (p2 : Int) (p3 : Int) (p4 : Int) (p5 : Int) (p6 : Int) : Int × Int × Int × Int × Int × Bool := (num ((L_ref06_Value [.int .i64 p0, .int .i64 p1, .int .u16 p2, .int .u16 p3, .int .u16 p4, .int .u16 p5, .int .u16 p6]).getD 0 undef), num ((L_ref06_Value [.int .i64 p0, .int .i64 p1, .int .u16 p2, .int .u16 p3, .int .u16 p4, .int .u16 p5, .int .u16 p6]).getD 1 undef), num ((L_ref06_Value [.int .i64 p0, .int .i64 p1, .int .u16 p2, .int .u16 p3, .int .u16 p4, .int .u16 p5, .int .u16 p6]).getD 2 undef), num ((L_ref06_Value [.int .i64 p0, .int .i64 p1, .int .u16 p2, .int .u16 p3, .int .u16 p4, .int .u16 p5, .int .u16 p6]).getD 3 undef), num ((L_ref06_Value [.int .i64 p0, .int .i64 p1, .int .u16 p2, .int .u16 p3, .int .u16 p4, .int .u16 p5, .int .u16 p6]).getD 4 undef), tru ((L_ref06_Value [.int .i64 p0, .int .i64 p1, .int .u16 p2, .int .u16 p3, .int .u16 p4, .int .u16 p5, .int .u16 p6]).getD 5 undef))
theorem F_ref06_Value_eq (p0 : Int) (p1 : Int) (p2 : Int) (p3 : Int) (p4 : Int) (p5 : Int) (p6 : Int) : F_ref06_Value p0 p1 p2 p3 p4 p5 p6 =
    let x0 := F_ref06_Blend p1 p3 p4 p5 p6
    bif (!x0.2.2.2.2.2) then
      ((0, 0, 0, 0, 0, false))
    else
      (let x1 := F_ref06_Factors p0 p4 p6 p2
      bif (!x1.2.2) then
        ((0, 0, 0, 0, 0, false))
      else
        (let x2 := F_ref01_Full p2
        bif (!x2) then
          ((0, 0, 0, 0, 0, false))
        else
          (let x3 := F_ref01_MulSmall x0.1 x0.2.1 x1.1
          let x4 := F_ref06_wide (IntKind.u64.wrap ((IntKind.u64.wrap (p2 - p6)) * p3)) x1.1 x0.2.2.2.2.1
          let x5 := F_ref01_Add x3.1 x3.2.1 x4.1 x4.2
          let x6 := F_ref06_wide (IntKind.u64.wrap (x1.2.1 * p5)) p2 x0.2.2.2.2.1
          let x7 := F_ref01_Add x5.1 x5.2.1 x6.1 x6.2
          (x7.1, x7.2.1, (IntKind.u64.wrap (x1.1 * x0.2.2.1)), x0.2.2.2.1, (IntKind.u64.wrap ((IntKind.u64.wrap (p2 * p2)) * x0.2.2.2.2.1)), true)))) :=
  spellV (L := L_ref06_Value) (fun l => (num ((l).getD 0 undef), num ((l).getD 1 undef), num ((l).getD 2 undef), num ((l).getD 3 undef), num ((l).getD 4 undef), tru ((l).getD 5 undef))) (evF Tryz.prog [S_ref01_Add, S_ref01_MulSmall, S_ref06_wide, S_ref06_Blend, S_ref01_Full, S_ref06_Factors] 1000 60 (inL A_ref06_Value [.int .i64 p0, .int .i64 p1, .int .u16 p2, .int .u16 p3, .int .u16 p4, .int .u16 p5, .int .u16 p6])) (L_ref06_Value_is _) (by kernel_rfl)

/-! compositor/compositorref06.Color -/
def A_ref06_Color : List PS := [.c (.i .i64), .c (.i .i64), .c (.i .u16), .c (.i .u16), .c (.i .u16), .c (.i .u16), .c (.i .u16)]
def R_ref06_Color : RS := .tup [.c (.i .u16), .c (.b)]
noncomputable def L_ref06_Color : List Value → List Value := Classical.choose (veil fun vs => (evF Tryz.prog [S_ref01_HalfExact, S_ref06_Value] 1000 47 (inL A_ref06_Color vs)).outL)
theorem L_ref06_Color_is (vs : List Value) : L_ref06_Color vs = (evF Tryz.prog [S_ref01_HalfExact, S_ref06_Value] 1000 47 (inL A_ref06_Color vs)).outL := Classical.choose_spec (veil fun vs => (evF Tryz.prog [S_ref01_HalfExact, S_ref06_Value] 1000 47 (inL A_ref06_Color vs)).outL) vs
noncomputable def S_ref06_Color : Sum := ⟨47, L_ref06_Color, A_ref06_Color, R_ref06_Color⟩
theorem ok_ref06_Color : SumOK Tryz.prog InvN S_ref06_Color := sumOK_evV invN_stays (allOK_cons ok_ref01_HalfExact.any (allOK_cons ok_ref06_Value allOK_nil)) 1000 47 A_ref06_Color R_ref06_Color L_ref06_Color_is (fun _ => by kernel_rfl)
noncomputable def F_ref06_Color (p0 : Int) (p1 : Int) (p2 : Int) (p3 : Int) (p4 : Int) (p5 : Int) (p6 : Int) : Int × Bool := (num ((L_ref06_Color [.int .i64 p0, .int .i64 p1, .int .u16 p2, .int .u16 p3, .int .u16 p4, .int .u16 p5, .int .u16 p6]).getD 0 undef), tru ((L_ref06_Color [.int .i64 p0, .int .i64 p1, .int .u16 p2, .int .u16 p3, .int .u16 p4, .int .u16 p5, .int .u16 p6]).getD 1 undef))
theorem F_ref06_Color_eq (p0 : Int) (p1 : Int) (p2 : Int) (p3 : Int) (p4 : Int) (p5 : Int) (p6 : Int) : F_ref06_Color p0 p1 p2 p3 p4 p5 p6 =
    let x0 := F_ref06_Value p0 p1 p2 p3 p4 p5 p6
    bif (!x0.2.2.2.2.2) then
      ((0, false))
    else
      (let x1 := F_ref01_HalfExact x0.1 x0.2.1 x0.2.2.1 x0.2.2.2.1 x0.2.2.2.2.1
      ((IntKind.u16.wrap x1.1), true)) :=
  spellV (L := L_ref06_Color) (fun l => (num ((l).getD 0 undef), tru ((l).getD 1 undef))) (evF Tryz.prog [S_ref01_HalfExact, S_ref06_Value] 1000 47 (inL A_ref06_Color [.int .i64 p0, .int .i64 p1, .int .u16 p2, .int .u16 p3, .int .u16 p4, .int .u16 p5, .int .u16 p6])) (L_ref06_Color_is _) (by kernel_rfl)

end Go.Proofs.YtfjhhadmncjdiaaGreatDoor
