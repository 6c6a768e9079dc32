/- What the functions of the chapters 07 and 08 compute. Printed by a program (gen/Gen.lean); what each function does is told by the evaluator, and the kernel checks it. No condition. -/
import Derived.Test.YtdioaiepkhepaaaDoorRules
import Derived.Test.YtdioaiepkhepaaaDoorSm10
import Derived.Test.YtdioaiepkhepaaaDoorLaw03
import Derived.KernelRfl
namespace Go.Proofs.YtdioaiepkhepaaaDoor
open Go.RowKit

/-! compositor/operator.factor -/
def A_operator_factor : List PS := [.c (.i .i64), .c (.i .u16), .c (.i .u16)]
def R_operator_factor : RS := .one (.c (.i .u16))
noncomputable def L_operator_factor : List Value → List Value := Classical.choose (veil fun vs => (evF Tryd.prog [] 1000 63 (inL A_operator_factor vs)).outL)
theorem L_operator_factor_is (vs : List Value) : L_operator_factor vs = (evF Tryd.prog [] 1000 63 (inL A_operator_factor vs)).outL := Classical.choose_spec (veil fun vs => (evF Tryd.prog [] 1000 63 (inL A_operator_factor vs)).outL) vs
noncomputable def S_operator_factor : Sum := ⟨63, L_operator_factor, A_operator_factor, R_operator_factor⟩
theorem ok_operator_factor : SumOK Tryd.prog InvN S_operator_factor := sumOK_evV invN_stays allOK_nil 1000 63 A_operator_factor R_operator_factor L_operator_factor_is (fun _ => by kernel_rfl)
noncomputable def F_operator_factor (p0 : Int) (p1 : Int) (p2 : Int) : Int := num ((L_operator_factor [.int .i64 p0, .int .u16 p1, .int .u16 p2]).getD 0 undef)
theorem F_operator_factor_eq (p0 : Int) (p1 : Int) (p2 : Int) : F_operator_factor p0 p1 p2 =
    bif (p0 == 1) then
      (p2)
    else
      (bif (p0 == 2) then
        (p1)
      else
        (bif (p0 == 3) then
          ((IntKind.u16.wrap (p2 - p1)))
        else
          (0))) :=
  spellV (L := L_operator_factor) (fun l => num ((l).getD 0 undef)) (evF Tryd.prog [] 1000 63 (inL A_operator_factor [.int .i64 p0, .int .u16 p1, .int .u16 p2])) (L_operator_factor_is _) (by kernel_rfl)

/-! compositor/operator.Factors -/
def A_operator_Factors : List PS := [.c (.i .i64), .c (.i .u16), .c (.i .u16), .c (.i .u16)]
def R_operator_Factors : RS := .tup [.c (.i .u16), .c (.i .u16), .c (.b)]
noncomputable def L_operator_Factors : List Value → List Value := Classical.choose (veil fun vs => (evF Tryd.prog [S_operator_find, S_operator_factor] 1000 53 (inL A_operator_Factors vs)).outL)
theorem L_operator_Factors_is (vs : List Value) : L_operator_Factors vs = (evF Tryd.prog [S_operator_find, S_operator_factor] 1000 53 (inL A_operator_Factors vs)).outL := Classical.choose_spec (veil fun vs => (evF Tryd.prog [S_operator_find, S_operator_factor] 1000 53 (inL A_operator_Factors vs)).outL) vs
noncomputable def S_operator_Factors : Sum := ⟨53, L_operator_Factors, A_operator_Factors, R_operator_Factors⟩
theorem ok_operator_Factors : SumOK Tryd.prog InvN S_operator_Factors := sumOK_evV invN_stays (allOK_cons ok_operator_find (allOK_cons ok_operator_factor allOK_nil)) 1000 53 A_operator_Factors R_operator_Factors L_operator_Factors_is (fun _ => by kernel_rfl)
noncomputable def F_operator_Factors (p0 : Int) (p1 : Int) (p2 : Int) (p3 : Int) : Int × Int × Bool := (num ((L_operator_Factors [.int .i64 p0, .int .u16 p1, .int .u16 p2, .int .u16 p3]).getD 0 undef), num ((L_operator_Factors [.int .i64 p0, .int .u16 p1, .int .u16 p2, .int .u16 p3]).getD 1 undef), tru ((L_operator_Factors [.int .i64 p0, .int .u16 p1, .int .u16 p2, .int .u16 p3]).getD 2 undef))
theorem F_operator_Factors_eq (p0 : Int) (p1 : Int) (p2 : Int) (p3 : Int) : F_operator_Factors p0 p1 p2 p3 =
    let x0 := F_operator_find p0
    bif (!x0.2.2.2.2) then
      ((0, 0, false))
    else
      (bif (decide (p1 > p3)) then
        ((0, 0, false))
      else
        (bif (decide (p2 > p3)) then
          ((0, 0, false))
        else
          (let x1 := F_operator_factor x0.2.1 p2 p3
          let x2 := F_operator_factor x0.2.2.1 p1 p3
          (x1, x2, true)))) :=
  spellV (L := L_operator_Factors) (fun l => (num ((l).getD 0 undef), num ((l).getD 1 undef), tru ((l).getD 2 undef))) (evF Tryd.prog [S_operator_find, S_operator_factor] 1000 53 (inL A_operator_Factors [.int .i64 p0, .int .u16 p1, .int .u16 p2, .int .u16 p3])) (L_operator_Factors_is _) (by kernel_rfl)

/-! compositor/operator.sum -/
def A_operator_sum : List PS := [.c (.i .u16), .c (.i .u16), .c (.i .u16), .c (.i .u16), .c (.i .u16)]
def R_operator_sum : RS := .one (.c (.i .u16))
noncomputable def L_operator_sum : List Value → List Value := Classical.choose (veil fun vs => (evF Tryd.prog [S_round_Half] 1000 54 (inL A_operator_sum vs)).outL)
theorem L_operator_sum_is (vs : List Value) : L_operator_sum vs = (evF Tryd.prog [S_round_Half] 1000 54 (inL A_operator_sum vs)).outL := Classical.choose_spec (veil fun vs => (evF Tryd.prog [S_round_Half] 1000 54 (inL A_operator_sum vs)).outL) vs
noncomputable def S_operator_sum : Sum := ⟨54, L_operator_sum, A_operator_sum, R_operator_sum⟩
theorem ok_operator_sum : SumOK Tryd.prog InvN S_operator_sum := sumOK_evV invN_stays (allOK_cons ok_round_Half.any allOK_nil) 1000 54 A_operator_sum R_operator_sum L_operator_sum_is (fun _ => by kernel_rfl)
noncomputable def F_operator_sum (p0 : Int) (p1 : Int) (p2 : Int) (p3 : Int) (p4 : Int) : Int := num ((L_operator_sum [.int .u16 p0, .int .u16 p1, .int .u16 p2, .int .u16 p3, .int .u16 p4]).getD 0 undef)
theorem F_operator_sum_eq (p0 : Int) (p1 : Int) (p2 : Int) (p3 : Int) (p4 : Int) : F_operator_sum p0 p1 p2 p3 p4 =
    let x0 := F_round_Half (IntKind.u64.wrap ((IntKind.u64.wrap (p0 * p1)) + (IntKind.u64.wrap (p2 * p3)))) p4
    (IntKind.u16.wrap x0) :=
  spellV (L := L_operator_sum) (fun l => num ((l).getD 0 undef)) (evF Tryd.prog [S_round_Half] 1000 54 (inL A_operator_sum [.int .u16 p0, .int .u16 p1, .int .u16 p2, .int .u16 p3, .int .u16 p4])) (L_operator_sum_is _) (by kernel_rfl)

/-! compositor/operator.Alpha -/
def A_operator_Alpha : List PS := [.c (.i .i64), .c (.i .u16), .c (.i .u16), .c (.i .u16)]
def R_operator_Alpha : RS := .one (.c (.i .u16))
noncomputable def L_operator_Alpha : List Value → List Value := Classical.choose (veil fun vs => (evF Tryd.prog [S_operator_Factors, S_operator_sum] 1000 45 (inL A_operator_Alpha vs)).outL)
theorem L_operator_Alpha_is (vs : List Value) : L_operator_Alpha vs = (evF Tryd.prog [S_operator_Factors, S_operator_sum] 1000 45 (inL A_operator_Alpha vs)).outL := Classical.choose_spec (veil fun vs => (evF Tryd.prog [S_operator_Factors, S_operator_sum] 1000 45 (inL A_operator_Alpha vs)).outL) vs
noncomputable def S_operator_Alpha : Sum := ⟨45, L_operator_Alpha, A_operator_Alpha, R_operator_Alpha⟩
theorem ok_operator_Alpha : SumOK Tryd.prog InvN S_operator_Alpha := sumOK_evV invN_stays (allOK_cons ok_operator_Factors (allOK_cons ok_operator_sum allOK_nil)) 1000 45 A_operator_Alpha R_operator_Alpha L_operator_Alpha_is (fun _ => by kernel_rfl)
noncomputable def F_operator_Alpha (p0 : Int) (p1 : Int) (p2 : Int) (p3 : Int) : Int := num ((L_operator_Alpha [.int .i64 p0, .int .u16 p1, .int .u16 p2, .int .u16 p3]).getD 0 undef)
theorem F_operator_Alpha_eq (p0 : Int) (p1 : Int) (p2 : Int) (p3 : Int) : F_operator_Alpha p0 p1 p2 p3 =
    let x0 := F_operator_Factors p0 p1 p2 p3
    let x1 := F_operator_sum x0.1 p1 x0.2.1 p2 p3
    x1 :=
  spellV (L := L_operator_Alpha) (fun l => num ((l).getD 0 undef)) (evF Tryd.prog [S_operator_Factors, S_operator_sum] 1000 45 (inL A_operator_Alpha [.int .i64 p0, .int .u16 p1, .int .u16 p2, .int .u16 p3])) (L_operator_Alpha_is _) (by kernel_rfl)

/-! compositor/operator.Shape -/
def A_operator_Shape : List PS := [.c (.i .i64), .c (.i .u16), .c (.i .u16), .c (.i .u16)]
def R_operator_Shape : RS := .one (.c (.i .u16))
noncomputable def L_operator_Shape : List Value → List Value := Classical.choose (veil fun vs => (evF Tryd.prog [S_operator_find, S_operator_sum] 1000 46 (inL A_operator_Shape vs)).outL)
theorem L_operator_Shape_is (vs : List Value) : L_operator_Shape vs = (evF Tryd.prog [S_operator_find, S_operator_sum] 1000 46 (inL A_operator_Shape vs)).outL := Classical.choose_spec (veil fun vs => (evF Tryd.prog [S_operator_find, S_operator_sum] 1000 46 (inL A_operator_Shape vs)).outL) vs
noncomputable def S_operator_Shape : Sum := ⟨46, L_operator_Shape, A_operator_Shape, R_operator_Shape⟩
theorem ok_operator_Shape : SumOK Tryd.prog InvN S_operator_Shape := sumOK_evV invN_stays (allOK_cons ok_operator_find (allOK_cons ok_operator_sum allOK_nil)) 1000 46 A_operator_Shape R_operator_Shape L_operator_Shape_is (fun _ => by kernel_rfl)
noncomputable def F_operator_Shape (p0 : Int) (p1 : Int) (p2 : Int) (p3 : Int) : Int := num ((L_operator_Shape [.int .i64 p0, .int .u16 p1, .int .u16 p2, .int .u16 p3]).getD 0 undef)
theorem F_operator_Shape_eq (p0 : Int) (p1 : Int) (p2 : Int) (p3 : Int) : F_operator_Shape p0 p1 p2 p3 =
    bif (decide (p1 > p3)) then
      (0)
    else
      (bif (decide (p2 > p3)) then
        (0)
      else
        (bif (p3 == 0) then
          (0)
        else
          (let x0 := F_operator_find p0
          bif (x0.2.2.2.1 == 1) then
            (p1)
          else
            (bif (x0.2.2.2.1 == 2) then
              (p2)
            else
              (bif (x0.2.2.2.1 == 3) then
                (let x1 := F_operator_sum p3 p1 (IntKind.u16.wrap (p3 - p1)) p2 p3
                x1)
              else
                (bif (x0.2.2.2.1 == 4) then
                  (let x2 := F_operator_sum p1 p2 0 0 p3
                  x2)
                else
                  (0))))))) :=
  spellV (L := L_operator_Shape) (fun l => num ((l).getD 0 undef)) (evF Tryd.prog [S_operator_find, S_operator_sum] 1000 46 (inL A_operator_Shape [.int .i64 p0, .int .u16 p1, .int .u16 p2, .int .u16 p3])) (L_operator_Shape_is _) (by kernel_rfl)

/-! compositor/mix.Value -/
def A_mix_Value : List PS := [.c (.i .i64), .c (.i .i64), .c (.i .u16), .c (.i .u16), .c (.i .u16), .c (.i .u16), .c (.i .u16)]
def R_mix_Value : RS := .tup [.agg [.i .u64, .i .u64, .i .u64, .i .u64, .i .u64], .c (.b)]
noncomputable def L_mix_Value : List Value → List Value := Classical.choose (veil fun vs => (evF Tryd.prog [S_wide_Add, S_wide_Mul, S_blend_Exact, S_operator_Factors] 1000 51 (inL A_mix_Value vs)).outL)
theorem L_mix_Value_is (vs : List Value) : L_mix_Value vs = (evF Tryd.prog [S_wide_Add, S_wide_Mul, S_blend_Exact, S_operator_Factors] 1000 51 (inL A_mix_Value vs)).outL := Classical.choose_spec (veil fun vs => (evF Tryd.prog [S_wide_Add, S_wide_Mul, S_blend_Exact, S_operator_Factors] 1000 51 (inL A_mix_Value vs)).outL) vs
noncomputable def S_mix_Value : Sum := ⟨51, L_mix_Value, A_mix_Value, R_mix_Value⟩
theorem ok_mix_Value : SumOK Tryd.prog InvN S_mix_Value := sumOK_evV invN_stays (allOK_cons ok_wide_Add.any (allOK_cons ok_wide_Mul.any (allOK_cons ok_blend_Exact.any (allOK_cons ok_operator_Factors allOK_nil)))) 1000 51 A_mix_Value R_mix_Value L_mix_Value_is (fun _ => by kernel_rfl)
noncomputable def F_mix_Value (p0 : Int) (p1 : Int) (p2 : Int) (p3 : Int) (p4 : Int) (p5 : Int) (p6 : Int) : Int × Int × Int × Int × Int × Bool := (num ((L_mix_Value [.int .i64 p0, .int .i64 p1, .int .u16 p2, .int .u16 p3, .int .u16 p4, .int .u16 p5, .int .u16 p6]).getD 0 undef), num ((L_mix_Value [.int .i64 p0, .int .i64 p1, .int .u16 p2, .int .u16 p3, .int .u16 p4, .int .u16 p5, .int .u16 p6]).getD 1 undef), num ((L_mix_Value [.int .i64 p0, .int .i64 p1, .int .u16 p2, .int .u16 p3, .int .u16 p4, .int .u16 p5, .int .u16 p6]).getD 2 undef), num ((L_mix_Value [.int .i64 p0, .int .i64 p1, .int .u16 p2, .int .u16 p3, .int .u16 p4, .int .u16 p5, .int .u16 p6]).getD 3 undef), num ((L_mix_Value [.int .i64 p0, .int .i64 p1, .int .u16 p2, .int .u16 p3, .int .u16 p4, .int .u16 p5, .int .u16 p6]).getD 4 undef), tru ((L_mix_Value [.int .i64 p0, .int .i64 p1, .int .u16 p2, .int .u16 p3, .int .u16 p4, .int .u16 p5, .int .u16 p6]).getD 5 undef))
theorem F_mix_Value_eq (p0 : Int) (p1 : Int) (p2 : Int) (p3 : Int) (p4 : Int) (p5 : Int) (p6 : Int) : F_mix_Value p0 p1 p2 p3 p4 p5 p6 =
    let x0 := F_operator_Factors p0 p4 p6 p2
    bif (!x0.2.2) then
      ((0, 0, 0, 0, 0, false))
    else
      (let x1 := F_blend_Exact p1 p3 p4 p5 p6
      bif (!x1.2.2.2.2.2) then
        ((0, 0, 0, 0, 0, false))
      else
        (bif (p2 != 255) then
          (bif (p2 != 65535) then
            ((0, 0, 0, 0, 0, false))
          else
            (let x2 := F_wide_Mul (IntKind.u64.wrap ((IntKind.u64.wrap ((IntKind.u64.wrap ((IntKind.u16.wrap (p2 - p6)) * p3)) * x1.2.2.2.2.1)) + x1.2.1)) x0.1
            let x3 := F_wide_Mul (IntKind.u64.wrap ((IntKind.u64.wrap (p5 * p2)) * x1.2.2.2.2.1)) x0.2.1
            let x4 := F_wide_Add x2.1 x2.2 x3.1 x3.2
            (x4.1, x4.2.1, (IntKind.u64.wrap (x0.1 * x1.2.2.1)), x1.2.2.2.1, (IntKind.u64.wrap ((IntKind.u64.wrap (p2 * p2)) * x1.2.2.2.2.1)), true)))
        else
          (let x5 := F_wide_Mul (IntKind.u64.wrap ((IntKind.u64.wrap ((IntKind.u64.wrap ((IntKind.u16.wrap (p2 - p6)) * p3)) * x1.2.2.2.2.1)) + x1.2.1)) x0.1
          let x6 := F_wide_Mul (IntKind.u64.wrap ((IntKind.u64.wrap (p5 * p2)) * x1.2.2.2.2.1)) x0.2.1
          let x7 := F_wide_Add x5.1 x5.2 x6.1 x6.2
          (x7.1, x7.2.1, (IntKind.u64.wrap (x0.1 * x1.2.2.1)), x1.2.2.2.1, (IntKind.u64.wrap ((IntKind.u64.wrap (p2 * p2)) * x1.2.2.2.2.1)), true)))) :=
  spellV (L := L_mix_Value) (fun l => (num ((l).getD 0 undef), num ((l).getD 1 undef), num ((l).getD 2 undef), num ((l).getD 3 undef), num ((l).getD 4 undef), tru ((l).getD 5 undef))) (evF Tryd.prog [S_wide_Add, S_wide_Mul, S_blend_Exact, S_operator_Factors] 1000 51 (inL A_mix_Value [.int .i64 p0, .int .i64 p1, .int .u16 p2, .int .u16 p3, .int .u16 p4, .int .u16 p5, .int .u16 p6])) (L_mix_Value_is _) (by kernel_rfl)

/-! compositor/mix.Color -/
def A_mix_Color : List PS := [.c (.i .i64), .c (.i .i64), .c (.i .u16), .c (.i .u16), .c (.i .u16), .c (.i .u16), .c (.i .u16)]
def R_mix_Color : RS := .tup [.c (.i .u16), .c (.b)]
noncomputable def L_mix_Color : List Value → List Value := Classical.choose (veil fun vs => (evF Tryd.prog [S_surd_Half, S_mix_Value] 1000 44 (inL A_mix_Color vs)).outL)
theorem L_mix_Color_is (vs : List Value) : L_mix_Color vs = (evF Tryd.prog [S_surd_Half, S_mix_Value] 1000 44 (inL A_mix_Color vs)).outL := Classical.choose_spec (veil fun vs => (evF Tryd.prog [S_surd_Half, S_mix_Value] 1000 44 (inL A_mix_Color vs)).outL) vs
noncomputable def S_mix_Color : Sum := ⟨44, L_mix_Color, A_mix_Color, R_mix_Color⟩
theorem ok_mix_Color : SumOK Tryd.prog InvN S_mix_Color := sumOK_evV invN_stays (allOK_cons ok_surd_Half.any (allOK_cons ok_mix_Value allOK_nil)) 1000 44 A_mix_Color R_mix_Color L_mix_Color_is (fun _ => by kernel_rfl)
noncomputable def F_mix_Color (p0 : Int) (p1 : Int) (p2 : Int) (p3 : Int) (p4 : Int) (p5 : Int) (p6 : Int) : Int × Bool := (num ((L_mix_Color [.int .i64 p0, .int .i64 p1, .int .u16 p2, .int .u16 p3, .int .u16 p4, .int .u16 p5, .int .u16 p6]).getD 0 undef), tru ((L_mix_Color [.int .i64 p0, .int .i64 p1, .int .u16 p2, .int .u16 p3, .int .u16 p4, .int .u16 p5, .int .u16 p6]).getD 1 undef))
theorem F_mix_Color_eq (p0 : Int) (p1 : Int) (p2 : Int) (p3 : Int) (p4 : Int) (p5 : Int) (p6 : Int) : F_mix_Color p0 p1 p2 p3 p4 p5 p6 =
    let x0 := F_mix_Value p0 p1 p2 p3 p4 p5 p6
    bif (!x0.2.2.2.2.2) then
      ((0, false))
    else
      (let x1 := F_surd_Half x0.1 x0.2.1 x0.2.2.1 x0.2.2.2.1 x0.2.2.2.2.1
      ((IntKind.u16.wrap x1.1), x1.2)) :=
  spellV (L := L_mix_Color) (fun l => (num ((l).getD 0 undef), tru ((l).getD 1 undef))) (evF Tryd.prog [S_surd_Half, S_mix_Value] 1000 44 (inL A_mix_Color [.int .i64 p0, .int .i64 p1, .int .u16 p2, .int .u16 p3, .int .u16 p4, .int .u16 p5, .int .u16 p6])) (L_mix_Color_is _) (by kernel_rfl)






end Go.Proofs.YtdioaiepkhepaaaDoor
