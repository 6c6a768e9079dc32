/- What the functions of chapter 12 compute. Printed by a program (gen/Gen.lean); what each function does is told by the evaluator, and the kernel checks it. No condition. -/
import Derived.Test.YtdioaiepkhepaaaDoorSm09
import Derived.KernelRfl
namespace Go.Proofs.YtdioaiepkhepaaaDoor
open Go.RowKit



/-! compositor/group.Valid -/
def A_group_Valid : List PS := [.agg [.i .u16, .i .u16, .i .u16, .i .u16, .i .u16, .i .u16], .agg [.i .u16, .i .u16, .i .u16, .i .u16, .i .u16], .c (.i .u16)]
def R_group_Valid : RS := .one (.c (.b))
noncomputable def L_group_Valid : List Value → List Value := Classical.choose (veil fun vs => (evF Tryd.prog [S_sample_Valid] 1000 39 (inL A_group_Valid vs)).outL)
theorem L_group_Valid_is (vs : List Value) : L_group_Valid vs = (evF Tryd.prog [S_sample_Valid] 1000 39 (inL A_group_Valid vs)).outL := Classical.choose_spec (veil fun vs => (evF Tryd.prog [S_sample_Valid] 1000 39 (inL A_group_Valid vs)).outL) vs
noncomputable def S_group_Valid : Sum := ⟨39, L_group_Valid, A_group_Valid, R_group_Valid⟩
theorem ok_group_Valid : SumOK Tryd.prog InvN S_group_Valid := sumOK_evV invN_stays (allOK_cons ok_sample_Valid allOK_nil) 1000 39 A_group_Valid R_group_Valid L_group_Valid_is (fun _ => by kernel_rfl)
noncomputable def F_group_Valid (p0 : Int) (p1 : Int) (p2 : Int) (p3 : Int) (p4 : Int) (p5 : Int) (p6 : Int) (p7 : Int) (p8 : Int) (p9 : Int) (p10 : Int) (p11 : Int) : Bool := tru ((L_group_Valid [.int .u16 p0, .int .u16 p1, .int .u16 p2, .int .u16 p3, .int .u16 p4, .int .u16 p5, .int .u16 p6, .int .u16 p7, .int .u16 p8, .int .u16 p9, .int .u16 p10, .int .u16 p11]).getD 0 undef)
theorem F_group_Valid_eq (p0 : Int) (p1 : Int) (p2 : Int) (p3 : Int) (p4 : Int) (p5 : Int) (p6 : Int) (p7 : Int) (p8 : Int) (p9 : Int) (p10 : Int) (p11 : Int) : F_group_Valid p0 p1 p2 p3 p4 p5 p6 p7 p8 p9 p10 p11 =
    bif (decide (p0 > p3)) then
      (false)
    else
      (bif (decide (p1 > p3)) then
        (false)
      else
        (bif (decide (p2 > p3)) then
          (false)
        else
          (bif (p11 == 255) then
            (bif (decide (p4 ≤ p3)) then
              (bif (decide (p4 ≤ p5)) then
                (bif (decide (p3 ≤ p11)) then
                  (bif (decide (p5 ≤ p11)) then
                    (let x0 := F_sample_Valid p6 p7 p8 p9 p10 p11
                    bif x0 then
                      ((p10 == p9))
                    else
                      (false))
                  else
                    (false))
                else
                  (false))
              else
                (false))
            else
              (false))
          else
            (bif (p11 == 65535) then
              (bif (decide (p4 ≤ p3)) then
                (bif (decide (p4 ≤ p5)) then
                  (bif (decide (p3 ≤ p11)) then
                    (bif (decide (p5 ≤ p11)) then
                      (let x1 := F_sample_Valid p6 p7 p8 p9 p10 p11
                      bif x1 then
                        ((p10 == p9))
                      else
                        (false))
                    else
                      (false))
                  else
                    (false))
                else
                  (false))
              else
                (false))
            else
              (false))))) :=
  spellV (L := L_group_Valid) (fun l => tru ((l).getD 0 undef)) (evF Tryd.prog [S_sample_Valid] 1000 39 (inL A_group_Valid [.int .u16 p0, .int .u16 p1, .int .u16 p2, .int .u16 p3, .int .u16 p4, .int .u16 p5, .int .u16 p6, .int .u16 p7, .int .u16 p8, .int .u16 p9, .int .u16 p10, .int .u16 p11])) (L_group_Valid_is _) (by kernel_rfl)

/-! compositor/group.Begin -/
def A_group_Begin : List PS := [.c (.b), .c (.b), .agg [.i .u16, .i .u16, .i .u16, .i .u16, .i .u16, .i .u16], .agg [.i .u16, .i .u16, .i .u16, .i .u16, .i .u16]]
def R_group_Begin : RS := .tup [.agg [.i .u16, .i .u16, .i .u16, .i .u16, .i .u16, .i .u16], .agg [.i .u16, .i .u16, .i .u16, .i .u16, .i .u16]]
noncomputable def L_group_Begin : List Value → List Value := Classical.choose (veil fun vs => (evF Tryd.prog [] 1000 31 (inL A_group_Begin vs)).outL)
theorem L_group_Begin_is (vs : List Value) : L_group_Begin vs = (evF Tryd.prog [] 1000 31 (inL A_group_Begin vs)).outL := Classical.choose_spec (veil fun vs => (evF Tryd.prog [] 1000 31 (inL A_group_Begin vs)).outL) vs
noncomputable def S_group_Begin : Sum := ⟨31, L_group_Begin, A_group_Begin, R_group_Begin⟩
theorem ok_group_Begin : SumOK Tryd.prog InvN S_group_Begin := sumOK_evV invN_stays allOK_nil 1000 31 A_group_Begin R_group_Begin L_group_Begin_is (fun _ => by kernel_rfl)
noncomputable def F_group_Begin (p0 : Bool) (p1 : Bool) (p2 : Int) (p3 : Int) (p4 : Int) (p5 : Int) (p6 : Int) (p7 : Int) (p8 : Int) (p9 : Int) (p10 : Int) (p11 : Int) (p12 : Int) : Int × Int × Int × Int × Int × Int × Int × Int × Int × Int × Int := (num ((L_group_Begin [.bool p0, .bool p1, .int .u16 p2, .int .u16 p3, .int .u16 p4, .int .u16 p5, .int .u16 p6, .int .u16 p7, .int .u16 p8, .int .u16 p9, .int .u16 p10, .int .u16 p11, .int .u16 p12]).getD 0 undef), num ((L_group_Begin [.bool p0, .bool p1, .int .u16 p2, .int .u16 p3, .int .u16 p4, .int .u16 p5, .int .u16 p6, .int .u16 p7, .int .u16 p8, .int .u16 p9, .int .u16 p10, .int .u16 p11, .int .u16 p12]).getD 1 undef), num ((L_group_Begin [.bool p0, .bool p1, .int .u16 p2, .int .u16 p3, .int .u16 p4, .int .u16 p5, .int .u16 p6, .int .u16 p7, .int .u16 p8, .int .u16 p9, .int .u16 p10, .int .u16 p11, .int .u16 p12]).getD 2 undef), num ((L_group_Begin [.bool p0, .bool p1, .int .u16 p2, .int .u16 p3, .int .u16 p4, .int .u16 p5, .int .u16 p6, .int .u16 p7, .int .u16 p8, .int .u16 p9, .int .u16 p10, .int .u16 p11, .int .u16 p12]).getD 3 undef), num ((L_group_Begin [.bool p0, .bool p1, .int .u16 p2, .int .u16 p3, .int .u16 p4, .int .u16 p5, .int .u16 p6, .int .u16 p7, .int .u16 p8, .int .u16 p9, .int .u16 p10, .int .u16 p11, .int .u16 p12]).getD 4 undef), num ((L_group_Begin [.bool p0, .bool p1, .int .u16 p2, .int .u16 p3, .int .u16 p4, .int .u16 p5, .int .u16 p6, .int .u16 p7, .int .u16 p8, .int .u16 p9, .int .u16 p10, .int .u16 p11, .int .u16 p12]).getD 5 undef), num ((L_group_Begin [.bool p0, .bool p1, .int .u16 p2, .int .u16 p3, .int .u16 p4, .int .u16 p5, .int .u16 p6, .int .u16 p7, .int .u16 p8, .int .u16 p9, .int .u16 p10, .int .u16 p11, .int .u16 p12]).getD 6 undef), num ((L_group_Begin [.bool p0, .bool p1, .int .u16 p2, .int .u16 p3, .int .u16 p4, .int .u16 p5, .int .u16 p6, .int .u16 p7, .int .u16 p8, .int .u16 p9, .int .u16 p10, .int .u16 p11, .int .u16 p12]).getD 7 undef), num ((L_group_Begin [.bool p0, .bool p1, .int .u16 p2, .int .u16 p3, .int .u16 p4, .int .u16 p5, .int .u16 p6, .int .u16 p7, .int .u16 p8, .int .u16 p9, .int .u16 p10, .int .u16 p11, .int .u16 p12]).getD 8 undef), num ((L_group_Begin [.bool p0, .bool p1, .int .u16 p2, .int .u16 p3, .int .u16 p4, .int .u16 p5, .int .u16 p6, .int .u16 p7, .int .u16 p8, .int .u16 p9, .int .u16 p10, .int .u16 p11, .int .u16 p12]).getD 9 undef), num ((L_group_Begin [.bool p0, .bool p1, .int .u16 p2, .int .u16 p3, .int .u16 p4, .int .u16 p5, .int .u16 p6, .int .u16 p7, .int .u16 p8, .int .u16 p9, .int .u16 p10, .int .u16 p11, .int .u16 p12]).getD 10 undef))
theorem F_group_Begin_eq (p0 : Bool) (p1 : Bool) (p2 : Int) (p3 : Int) (p4 : Int) (p5 : Int) (p6 : Int) (p7 : Int) (p8 : Int) (p9 : Int) (p10 : Int) (p11 : Int) (p12 : Int) : F_group_Begin p0 p1 p2 p3 p4 p5 p6 p7 p8 p9 p10 p11 p12 =
    bif p0 then
      ((0, 0, 0, 0, 0, 0, 0, 0, 0, 0, 0))
    else
      (bif (!p1) then
        ((p2, p3, p4, p5, 0, 0, p2, p3, p4, p5, p5))
      else
        ((p8, p9, p10, p11, 0, 0, p8, p9, p10, p11, p12))) :=
  spellV (L := L_group_Begin) (fun l => (num ((l).getD 0 undef), num ((l).getD 1 undef), num ((l).getD 2 undef), num ((l).getD 3 undef), num ((l).getD 4 undef), num ((l).getD 5 undef), num ((l).getD 6 undef), num ((l).getD 7 undef), num ((l).getD 8 undef), num ((l).getD 9 undef), num ((l).getD 10 undef))) (evF Tryd.prog [] 1000 31 (inL A_group_Begin [.bool p0, .bool p1, .int .u16 p2, .int .u16 p3, .int .u16 p4, .int .u16 p5, .int .u16 p6, .int .u16 p7, .int .u16 p8, .int .u16 p9, .int .u16 p10, .int .u16 p11, .int .u16 p12])) (L_group_Begin_is _) (by kernel_rfl)

/-! compositor/group.removed -/
def A_group_removed : List PS := [.c (.i .u16), .c (.i .u16), .c (.i .u16), .c (.i .u16)]
def R_group_removed : RS := .one (.c (.i .u16))
noncomputable def L_group_removed : List Value → List Value := Classical.choose (veil fun vs => (evF Tryd.prog [S_round_Half] 1000 40 (inL A_group_removed vs)).outL)
theorem L_group_removed_is (vs : List Value) : L_group_removed vs = (evF Tryd.prog [S_round_Half] 1000 40 (inL A_group_removed vs)).outL := Classical.choose_spec (veil fun vs => (evF Tryd.prog [S_round_Half] 1000 40 (inL A_group_removed vs)).outL) vs
noncomputable def S_group_removed : Sum := ⟨40, L_group_removed, A_group_removed, R_group_removed⟩
theorem ok_group_removed : SumOK Tryd.prog InvN S_group_removed := sumOK_evV invN_stays (allOK_cons ok_round_Half.any allOK_nil) 1000 40 A_group_removed R_group_removed L_group_removed_is (fun _ => by kernel_rfl)
noncomputable def F_group_removed (p0 : Int) (p1 : Int) (p2 : Int) (p3 : Int) : Int := num ((L_group_removed [.int .u16 p0, .int .u16 p1, .int .u16 p2, .int .u16 p3]).getD 0 undef)
theorem F_group_removed_eq (p0 : Int) (p1 : Int) (p2 : Int) (p3 : Int) : F_group_removed p0 p1 p2 p3 =
    bif (decide ((IntKind.u64.wrap (p3 * p0)) ≤ (IntKind.u64.wrap ((IntKind.u16.wrap (p3 - p2)) * p1)))) then
      (0)
    else
      (let x0 := F_round_Half (IntKind.u64.wrap ((IntKind.u64.wrap (p3 * p0)) - (IntKind.u64.wrap ((IntKind.u16.wrap (p3 - p2)) * p1)))) p3
      (if p2 < (IntKind.u16.wrap x0) then p2 else (IntKind.u16.wrap x0))) :=
  spellV (L := L_group_removed) (fun l => num ((l).getD 0 undef)) (evF Tryd.prog [S_round_Half] 1000 40 (inL A_group_removed [.int .u16 p0, .int .u16 p1, .int .u16 p2, .int .u16 p3])) (L_group_removed_is _) (by kernel_rfl)

/-! compositor/group.replace -/
def A_group_replace : List PS := [.c (.i .i64), .c (.i .u16), .agg [.i .u16, .i .u16, .i .u16, .i .u16, .i .u16], .agg [.i .u16, .i .u16, .i .u16, .i .u16, .i .u16, .i .u16], .agg [.i .u16, .i .u16, .i .u16, .i .u16, .i .u16]]
def R_group_replace : RS := .tup [.agg [.i .u16, .i .u16, .i .u16, .i .u16, .i .u16, .i .u16], .c (.b)]
noncomputable def L_group_replace : List Value → List Value := Classical.choose (veil fun vs => (evF Tryd.prog [S_knockout_Color, S_knockout_Alpha, S_knockout_Own, S_operator_Shape] 1000 43 (inL A_group_replace vs)).outL)
theorem L_group_replace_is (vs : List Value) : L_group_replace vs = (evF Tryd.prog [S_knockout_Color, S_knockout_Alpha, S_knockout_Own, S_operator_Shape] 1000 43 (inL A_group_replace vs)).outL := Classical.choose_spec (veil fun vs => (evF Tryd.prog [S_knockout_Color, S_knockout_Alpha, S_knockout_Own, S_operator_Shape] 1000 43 (inL A_group_replace vs)).outL) vs
noncomputable def S_group_replace : Sum := ⟨43, L_group_replace, A_group_replace, R_group_replace⟩
theorem ok_group_replace : SumOK Tryd.prog InvN S_group_replace := sumOK_evV invN_stays (allOK_cons ok_knockout_Color.any (allOK_cons ok_knockout_Alpha.any (allOK_cons ok_knockout_Own.any (allOK_cons ok_operator_Shape allOK_nil)))) 1000 43 A_group_replace R_group_replace L_group_replace_is (fun _ => by kernel_rfl)
noncomputable def F_group_replace (p0 : Int) (p1 : Int) (p2 : Int) (p3 : Int) (p4 : Int) (p5 : Int) (p6 : Int) (p7 : Int) (p8 : Int) (p9 : Int) (p10 : Int) (p11 : Int) (p12 : Int) (p13 : Int) (p14 : Int) (p15 : Int) (p16 : Int) (p17 : Int) : Int × Int × Int × Int × Int × Int × Bool := (num ((L_group_replace [.int .i64 p0, .int .u16 p1, .int .u16 p2, .int .u16 p3, .int .u16 p4, .int .u16 p5, .int .u16 p6, .int .u16 p7, .int .u16 p8, .int .u16 p9, .int .u16 p10, .int .u16 p11, .int .u16 p12, .int .u16 p13, .int .u16 p14, .int .u16 p15, .int .u16 p16, .int .u16 p17]).getD 0 undef), num ((L_group_replace [.int .i64 p0, .int .u16 p1, .int .u16 p2, .int .u16 p3, .int .u16 p4, .int .u16 p5, .int .u16 p6, .int .u16 p7, .int .u16 p8, .int .u16 p9, .int .u16 p10, .int .u16 p11, .int .u16 p12, .int .u16 p13, .int .u16 p14, .int .u16 p15, .int .u16 p16, .int .u16 p17]).getD 1 undef), num ((L_group_replace [.int .i64 p0, .int .u16 p1, .int .u16 p2, .int .u16 p3, .int .u16 p4, .int .u16 p5, .int .u16 p6, .int .u16 p7, .int .u16 p8, .int .u16 p9, .int .u16 p10, .int .u16 p11, .int .u16 p12, .int .u16 p13, .int .u16 p14, .int .u16 p15, .int .u16 p16, .int .u16 p17]).getD 2 undef), num ((L_group_replace [.int .i64 p0, .int .u16 p1, .int .u16 p2, .int .u16 p3, .int .u16 p4, .int .u16 p5, .int .u16 p6, .int .u16 p7, .int .u16 p8, .int .u16 p9, .int .u16 p10, .int .u16 p11, .int .u16 p12, .int .u16 p13, .int .u16 p14, .int .u16 p15, .int .u16 p16, .int .u16 p17]).getD 3 undef), num ((L_group_replace [.int .i64 p0, .int .u16 p1, .int .u16 p2, .int .u16 p3, .int .u16 p4, .int .u16 p5, .int .u16 p6, .int .u16 p7, .int .u16 p8, .int .u16 p9, .int .u16 p10, .int .u16 p11, .int .u16 p12, .int .u16 p13, .int .u16 p14, .int .u16 p15, .int .u16 p16, .int .u16 p17]).getD 4 undef), num ((L_group_replace [.int .i64 p0, .int .u16 p1, .int .u16 p2, .int .u16 p3, .int .u16 p4, .int .u16 p5, .int .u16 p6, .int .u16 p7, .int .u16 p8, .int .u16 p9, .int .u16 p10, .int .u16 p11, .int .u16 p12, .int .u16 p13, .int .u16 p14, .int .u16 p15, .int .u16 p16, .int .u16 p17]).getD 5 undef), tru ((L_group_replace [.int .i64 p0, .int .u16 p1, .int .u16 p2, .int .u16 p3, .int .u16 p4, .int .u16 p5, .int .u16 p6, .int .u16 p7, .int .u16 p8, .int .u16 p9, .int .u16 p10, .int .u16 p11, .int .u16 p12, .int .u16 p13, .int .u16 p14, .int .u16 p15, .int .u16 p16, .int .u16 p17]).getD 6 undef))
theorem F_group_replace_eq (p0 : Int) (p1 : Int) (p2 : Int) (p3 : Int) (p4 : Int) (p5 : Int) (p6 : Int) (p7 : Int) (p8 : Int) (p9 : Int) (p10 : Int) (p11 : Int) (p12 : Int) (p13 : Int) (p14 : Int) (p15 : Int) (p16 : Int) (p17 : Int) : F_group_replace p0 p1 p2 p3 p4 p5 p6 p7 p8 p9 p10 p11 p12 p13 p14 p15 p16 p17 =
    let x0 := F_knockout_Color p0 p1 p2 p5 p6 p7 p13 p16
    bif (!x0.2) then
      ((0, 0, 0, 0, 0, 0, false))
    else
      (let x1 := F_knockout_Color p0 p1 p3 p5 p6 p8 p14 p16
      bif (!x1.2) then
        ((0, 0, 0, 0, 0, 0, false))
      else
        (let x2 := F_knockout_Color p0 p1 p4 p5 p6 p9 p15 p16
        bif (!x2.2) then
          ((0, 0, 0, 0, 0, 0, false))
        else
          (let x3 := F_knockout_Alpha p1 p5 p6 p10 p16
          let x4 := F_knockout_Own p1 p5 p6 p11
          let x5 := F_operator_Shape 4 p6 p12 p1
          (x0.1, x1.1, x2.1, x3.1, x4.1, x5, true)))) :=
  spellV (L := L_group_replace) (fun l => (num ((l).getD 0 undef), num ((l).getD 1 undef), num ((l).getD 2 undef), num ((l).getD 3 undef), num ((l).getD 4 undef), num ((l).getD 5 undef), tru ((l).getD 6 undef))) (evF Tryd.prog [S_knockout_Color, S_knockout_Alpha, S_knockout_Own, S_operator_Shape] 1000 43 (inL A_group_replace [.int .i64 p0, .int .u16 p1, .int .u16 p2, .int .u16 p3, .int .u16 p4, .int .u16 p5, .int .u16 p6, .int .u16 p7, .int .u16 p8, .int .u16 p9, .int .u16 p10, .int .u16 p11, .int .u16 p12, .int .u16 p13, .int .u16 p14, .int .u16 p15, .int .u16 p16, .int .u16 p17])) (L_group_replace_is _) (by kernel_rfl)

/-! compositor/group.Step -/
def A_group_Step : List PS := [.c (.b), .c (.i .i64), .c (.i .i64), .c (.i .u16), .agg [.i .u16, .i .u16, .i .u16, .i .u16, .i .u16], .agg [.i .u16, .i .u16, .i .u16, .i .u16, .i .u16, .i .u16], .agg [.i .u16, .i .u16, .i .u16, .i .u16, .i .u16]]
def R_group_Step : RS := .tup [.agg [.i .u16, .i .u16, .i .u16, .i .u16, .i .u16, .i .u16], .c (.b)]
noncomputable def L_group_Step : List Value → List Value := Classical.choose (veil fun vs => (evF Tryd.prog [S_operator_Alpha, S_operator_Shape, S_mix_Color, S_sample_Valid, S_group_Valid, S_group_replace] 1000 38 (inL A_group_Step vs)).outL)
theorem L_group_Step_is (vs : List Value) : L_group_Step vs = (evF Tryd.prog [S_operator_Alpha, S_operator_Shape, S_mix_Color, S_sample_Valid, S_group_Valid, S_group_replace] 1000 38 (inL A_group_Step vs)).outL := Classical.choose_spec (veil fun vs => (evF Tryd.prog [S_operator_Alpha, S_operator_Shape, S_mix_Color, S_sample_Valid, S_group_Valid, S_group_replace] 1000 38 (inL A_group_Step vs)).outL) vs
noncomputable def S_group_Step : Sum := ⟨38, L_group_Step, A_group_Step, R_group_Step⟩
theorem ok_group_Step : SumOK Tryd.prog InvN S_group_Step := sumOK_evV invN_stays (allOK_cons ok_operator_Alpha (allOK_cons ok_operator_Shape (allOK_cons ok_mix_Color (allOK_cons ok_sample_Valid (allOK_cons ok_group_Valid (allOK_cons ok_group_replace allOK_nil)))))) 1000 38 A_group_Step R_group_Step L_group_Step_is (fun _ => by kernel_rfl)
noncomputable def F_group_Step (p0 : Bool) (p1 : Int) (p2 : Int) (p3 : Int) (p4 : Int) (p5 : Int) (p6 : Int) (p7 : Int) (p8 : Int) (p9 : Int) (p10 : Int) (p11 : Int) (p12 : Int) (p13 : Int) (p14 : Int) (p15 : Int) (p16 : Int) (p17 : Int) (p18 : Int) (p19 : Int) : Int × Int × Int × Int × Int × Int × Bool := (num ((L_group_Step [.bool p0, .int .i64 p1, .int .i64 p2, .int .u16 p3, .int .u16 p4, .int .u16 p5, .int .u16 p6, .int .u16 p7, .int .u16 p8, .int .u16 p9, .int .u16 p10, .int .u16 p11, .int .u16 p12, .int .u16 p13, .int .u16 p14, .int .u16 p15, .int .u16 p16, .int .u16 p17, .int .u16 p18, .int .u16 p19]).getD 0 undef), num ((L_group_Step [.bool p0, .int .i64 p1, .int .i64 p2, .int .u16 p3, .int .u16 p4, .int .u16 p5, .int .u16 p6, .int .u16 p7, .int .u16 p8, .int .u16 p9, .int .u16 p10, .int .u16 p11, .int .u16 p12, .int .u16 p13, .int .u16 p14, .int .u16 p15, .int .u16 p16, .int .u16 p17, .int .u16 p18, .int .u16 p19]).getD 1 undef), num ((L_group_Step [.bool p0, .int .i64 p1, .int .i64 p2, .int .u16 p3, .int .u16 p4, .int .u16 p5, .int .u16 p6, .int .u16 p7, .int .u16 p8, .int .u16 p9, .int .u16 p10, .int .u16 p11, .int .u16 p12, .int .u16 p13, .int .u16 p14, .int .u16 p15, .int .u16 p16, .int .u16 p17, .int .u16 p18, .int .u16 p19]).getD 2 undef), num ((L_group_Step [.bool p0, .int .i64 p1, .int .i64 p2, .int .u16 p3, .int .u16 p4, .int .u16 p5, .int .u16 p6, .int .u16 p7, .int .u16 p8, .int .u16 p9, .int .u16 p10, .int .u16 p11, .int .u16 p12, .int .u16 p13, .int .u16 p14, .int .u16 p15, .int .u16 p16, .int .u16 p17, .int .u16 p18, .int .u16 p19]).getD 3 undef), num ((L_group_Step [.bool p0, .int .i64 p1, .int .i64 p2, .int .u16 p3, .int .u16 p4, .int .u16 p5, .int .u16 p6, .int .u16 p7, .int .u16 p8, .int .u16 p9, .int .u16 p10, .int .u16 p11, .int .u16 p12, .int .u16 p13, .int .u16 p14, .int .u16 p15, .int .u16 p16, .int .u16 p17, .int .u16 p18, .int .u16 p19]).getD 4 undef), num ((L_group_Step [.bool p0, .int .i64 p1, .int .i64 p2, .int .u16 p3, .int .u16 p4, .int .u16 p5, .int .u16 p6, .int .u16 p7, .int .u16 p8, .int .u16 p9, .int .u16 p10, .int .u16 p11, .int .u16 p12, .int .u16 p13, .int .u16 p14, .int .u16 p15, .int .u16 p16, .int .u16 p17, .int .u16 p18, .int .u16 p19]).getD 5 undef), tru ((L_group_Step [.bool p0, .int .i64 p1, .int .i64 p2, .int .u16 p3, .int .u16 p4, .int .u16 p5, .int .u16 p6, .int .u16 p7, .int .u16 p8, .int .u16 p9, .int .u16 p10, .int .u16 p11, .int .u16 p12, .int .u16 p13, .int .u16 p14, .int .u16 p15, .int .u16 p16, .int .u16 p17, .int .u16 p18, .int .u16 p19]).getD 6 undef))
theorem F_group_Step_eq (p0 : Bool) (p1 : Int) (p2 : Int) (p3 : Int) (p4 : Int) (p5 : Int) (p6 : Int) (p7 : Int) (p8 : Int) (p9 : Int) (p10 : Int) (p11 : Int) (p12 : Int) (p13 : Int) (p14 : Int) (p15 : Int) (p16 : Int) (p17 : Int) (p18 : Int) (p19 : Int) : F_group_Step p0 p1 p2 p3 p4 p5 p6 p7 p8 p9 p10 p11 p12 p13 p14 p15 p16 p17 p18 p19 =
    let x0 := F_group_Valid p9 p10 p11 p12 p13 p14 p15 p16 p17 p18 p19 p3
    bif (!x0) then
      ((0, 0, 0, 0, 0, 0, false))
    else
      (let x1 := F_sample_Valid p4 p5 p6 p7 p8 p3
      bif (!x1) then
        ((0, 0, 0, 0, 0, 0, false))
      else
        (bif p0 then
          (bif (p1 != 4) then
            ((0, 0, 0, 0, 0, 0, false))
          else
            (bif p0 then
              (let x2 := F_group_replace p2 p3 p4 p5 p6 p7 p8 p9 p10 p11 p12 p13 p14 p15 p16 p17 p18 p19
              (x2.1, x2.2.1, x2.2.2.1, x2.2.2.2.1, x2.2.2.2.2.1, x2.2.2.2.2.2.1, x2.2.2.2.2.2.2))
            else
              (let x3 := F_mix_Color p1 p2 p3 p4 p7 p9 p12
              bif (!x3.2) then
                ((0, 0, 0, 0, 0, 0, false))
              else
                (let x4 := F_mix_Color p1 p2 p3 p5 p7 p10 p12
                bif (!x4.2) then
                  ((0, 0, 0, 0, 0, 0, false))
                else
                  (let x5 := F_mix_Color p1 p2 p3 p6 p7 p11 p12
                  bif (!x5.2) then
                    ((0, 0, 0, 0, 0, 0, false))
                  else
                    (let x6 := F_operator_Alpha p1 p7 p12 p3
                    let x7 := F_operator_Alpha p1 p7 p13 p3
                    let x8 := F_operator_Shape p1 p8 p14 p3
                    (x3.1, x4.1, x5.1, x6, x7, x8, true)))))))
        else
          (bif p0 then
            (let x9 := F_group_replace p2 p3 p4 p5 p6 p7 p8 p9 p10 p11 p12 p13 p14 p15 p16 p17 p18 p19
            (x9.1, x9.2.1, x9.2.2.1, x9.2.2.2.1, x9.2.2.2.2.1, x9.2.2.2.2.2.1, x9.2.2.2.2.2.2))
          else
            (let x10 := F_mix_Color p1 p2 p3 p4 p7 p9 p12
            bif (!x10.2) then
              ((0, 0, 0, 0, 0, 0, false))
            else
              (let x11 := F_mix_Color p1 p2 p3 p5 p7 p10 p12
              bif (!x11.2) then
                ((0, 0, 0, 0, 0, 0, false))
              else
                (let x12 := F_mix_Color p1 p2 p3 p6 p7 p11 p12
                bif (!x12.2) then
                  ((0, 0, 0, 0, 0, 0, false))
                else
                  (let x13 := F_operator_Alpha p1 p7 p12 p3
                  let x14 := F_operator_Alpha p1 p7 p13 p3
                  let x15 := F_operator_Shape p1 p8 p14 p3
                  (x10.1, x11.1, x12.1, x13, x14, x15, true)))))))) :=
  spellV (L := L_group_Step) (fun l => (num ((l).getD 0 undef), num ((l).getD 1 undef), num ((l).getD 2 undef), num ((l).getD 3 undef), num ((l).getD 4 undef), num ((l).getD 5 undef), tru ((l).getD 6 undef))) (evF Tryd.prog [S_operator_Alpha, S_operator_Shape, S_mix_Color, S_sample_Valid, S_group_Valid, S_group_replace] 1000 38 (inL A_group_Step [.bool p0, .int .i64 p1, .int .i64 p2, .int .u16 p3, .int .u16 p4, .int .u16 p5, .int .u16 p6, .int .u16 p7, .int .u16 p8, .int .u16 p9, .int .u16 p10, .int .u16 p11, .int .u16 p12, .int .u16 p13, .int .u16 p14, .int .u16 p15, .int .u16 p16, .int .u16 p17, .int .u16 p18, .int .u16 p19])) (L_group_Step_is _) (by kernel_rfl)

/-! compositor/group.Result -/
def A_group_Result : List PS := [.agg [.i .u16, .i .u16, .i .u16, .i .u16, .i .u16, .i .u16], .agg [.i .u16, .i .u16, .i .u16, .i .u16, .i .u16], .c (.i .u16)]
def R_group_Result : RS := .tup [.agg [.i .u16, .i .u16, .i .u16, .i .u16, .i .u16], .c (.b)]
noncomputable def L_group_Result : List Value → List Value := Classical.choose (veil fun vs => (evF Tryd.prog [S_group_Valid, S_group_removed] 1000 32 (inL A_group_Result vs)).outL)
theorem L_group_Result_is (vs : List Value) : L_group_Result vs = (evF Tryd.prog [S_group_Valid, S_group_removed] 1000 32 (inL A_group_Result vs)).outL := Classical.choose_spec (veil fun vs => (evF Tryd.prog [S_group_Valid, S_group_removed] 1000 32 (inL A_group_Result vs)).outL) vs
noncomputable def S_group_Result : Sum := ⟨32, L_group_Result, A_group_Result, R_group_Result⟩
theorem ok_group_Result : SumOK Tryd.prog InvN S_group_Result := sumOK_evV invN_stays (allOK_cons ok_group_Valid (allOK_cons ok_group_removed allOK_nil)) 1000 32 A_group_Result R_group_Result L_group_Result_is (fun _ => by kernel_rfl)
noncomputable def F_group_Result (p0 : Int) (p1 : Int) (p2 : Int) (p3 : Int) (p4 : Int) (p5 : Int) (p6 : Int) (p7 : Int) (p8 : Int) (p9 : Int) (p10 : Int) (p11 : Int) : Int × Int × Int × Int × Int × Bool := (num ((L_group_Result [.int .u16 p0, .int .u16 p1, .int .u16 p2, .int .u16 p3, .int .u16 p4, .int .u16 p5, .int .u16 p6, .int .u16 p7, .int .u16 p8, .int .u16 p9, .int .u16 p10, .int .u16 p11]).getD 0 undef), num ((L_group_Result [.int .u16 p0, .int .u16 p1, .int .u16 p2, .int .u16 p3, .int .u16 p4, .int .u16 p5, .int .u16 p6, .int .u16 p7, .int .u16 p8, .int .u16 p9, .int .u16 p10, .int .u16 p11]).getD 1 undef), num ((L_group_Result [.int .u16 p0, .int .u16 p1, .int .u16 p2, .int .u16 p3, .int .u16 p4, .int .u16 p5, .int .u16 p6, .int .u16 p7, .int .u16 p8, .int .u16 p9, .int .u16 p10, .int .u16 p11]).getD 2 undef), num ((L_group_Result [.int .u16 p0, .int .u16 p1, .int .u16 p2, .int .u16 p3, .int .u16 p4, .int .u16 p5, .int .u16 p6, .int .u16 p7, .int .u16 p8, .int .u16 p9, .int .u16 p10, .int .u16 p11]).getD 3 undef), num ((L_group_Result [.int .u16 p0, .int .u16 p1, .int .u16 p2, .int .u16 p3, .int .u16 p4, .int .u16 p5, .int .u16 p6, .int .u16 p7, .int .u16 p8, .int .u16 p9, .int .u16 p10, .int .u16 p11]).getD 4 undef), tru ((L_group_Result [.int .u16 p0, .int .u16 p1, .int .u16 p2, .int .u16 p3, .int .u16 p4, .int .u16 p5, .int .u16 p6, .int .u16 p7, .int .u16 p8, .int .u16 p9, .int .u16 p10, .int .u16 p11]).getD 5 undef))
theorem F_group_Result_eq (p0 : Int) (p1 : Int) (p2 : Int) (p3 : Int) (p4 : Int) (p5 : Int) (p6 : Int) (p7 : Int) (p8 : Int) (p9 : Int) (p10 : Int) (p11 : Int) : F_group_Result p0 p1 p2 p3 p4 p5 p6 p7 p8 p9 p10 p11 =
    let x0 := F_group_Valid p0 p1 p2 p3 p4 p5 p6 p7 p8 p9 p10 p11
    bif (!x0) then
      ((0, 0, 0, 0, 0, false))
    else
      (let x1 := F_group_removed p0 p6 p4 p11
      let x2 := F_group_removed p1 p7 p4 p11
      let x3 := F_group_removed p2 p8 p4 p11
      (x1, x2, x3, p4, p5, true)) :=
  spellV (L := L_group_Result) (fun l => (num ((l).getD 0 undef), num ((l).getD 1 undef), num ((l).getD 2 undef), num ((l).getD 3 undef), num ((l).getD 4 undef), tru ((l).getD 5 undef))) (evF Tryd.prog [S_group_Valid, S_group_removed] 1000 32 (inL A_group_Result [.int .u16 p0, .int .u16 p1, .int .u16 p2, .int .u16 p3, .int .u16 p4, .int .u16 p5, .int .u16 p6, .int .u16 p7, .int .u16 p8, .int .u16 p9, .int .u16 p10, .int .u16 p11])) (L_group_Result_is _) (by kernel_rfl)





end Go.Proofs.YtdioaiepkhepaaaDoor
