/- Blend terms, the program's and the reference's. Printed by a program (gen/Gen.lean); what each function does is told by the evaluator, and the kernel checks it. No condition. -/
import Derived.Test.YtdioaiepkhepaaaDoorSm03b
import Derived.KernelRfl
namespace Go.Proofs.YtdioaiepkhepaaaDoor
open Go.RowKit

/-! compositor/compositorgen.Max -/
def A_gen_Max : List PS := [.c (.i .i64)]
def R_gen_Max : RS := .one (.c (.i .u16))
noncomputable def L_gen_Max (vs : List Value) : List Value := (evF Tryd.prog [S_gen_Mod] 1000 10 (inL A_gen_Max vs)).outL
noncomputable def S_gen_Max : Sum := ⟨10, L_gen_Max, A_gen_Max, R_gen_Max⟩
theorem ok_gen_Max : SumOK Tryd.prog Inv S_gen_Max := sumOK_ev inv_stays (allOK_cons ok_gen_Mod allOK_nil) 1000 10 A_gen_Max R_gen_Max (fun _ => by kernel_rfl)
noncomputable def F_gen_Max (p0 : Int) : Int := num ((L_gen_Max [.int .i64 p0]).getD 0 undef)
theorem F_gen_Max_eq (p0 : Int) : F_gen_Max p0 =
    let x0 := F_gen_Mod p0 3
    bif (x0 == 2) then
      (65535)
    else
      (255) :=
  spell (fun l => num ((l).getD 0 undef)) (evF Tryd.prog [S_gen_Mod] 1000 10 (inL A_gen_Max [.int .i64 p0])) (by kernel_rfl) (by kernel_rfl)

/-! compositor/compositorgen.Sample -/
def A_gen_Sample : List PS := [.c (.i .i64), .c (.i .u16)]
def R_gen_Sample : RS := .one (.c (.i .u16))
noncomputable def L_gen_Sample (vs : List Value) : List Value := (evF Tryd.prog [S_gen_Mod] 1000 13 (inL A_gen_Sample vs)).outL
noncomputable def S_gen_Sample : Sum := ⟨13, L_gen_Sample, A_gen_Sample, R_gen_Sample⟩
theorem ok_gen_Sample : SumOK Tryd.prog Inv S_gen_Sample := sumOK_ev inv_stays (allOK_cons ok_gen_Mod allOK_nil) 1000 13 A_gen_Sample R_gen_Sample (fun _ => by kernel_rfl)
noncomputable def F_gen_Sample (p0 : Int) (p1 : Int) : Int := num ((L_gen_Sample [.int .i64 p0, .int .u16 p1]).getD 0 undef)
theorem F_gen_Sample_eq (p0 : Int) (p1 : Int) : F_gen_Sample p0 p1 =
    let x0 := F_gen_Mod p0 8
    bif (x0 == 0) then
      (0)
    else
      (bif (x0 == 1) then
        (p1)
      else
        (bif (x0 == 2) then
          (p1)
        else
          (bif (x0 == 3) then
            (let x1 := F_gen_Mod (IntKind.i64.wrap (Int.tdiv p0 8)) 2
            (IntKind.u16.wrap (IntKind.i64.wrap (Int.tdiv (IntKind.i64.wrap (p1 + x1)) 2))))
          else
            (bif (x0 == 4) then
              (let x2 := F_gen_Mod (IntKind.i64.wrap (Int.tdiv p0 8)) 4
              (IntKind.u16.wrap (if x2 < p1 then x2 else p1)))
            else
              (let x3 := F_gen_Mod (IntKind.i64.wrap (Int.tdiv p0 8)) (IntKind.i64.wrap (p1 + 1))
              (IntKind.u16.wrap x3)))))) :=
  spell (fun l => num ((l).getD 0 undef)) (evF Tryd.prog [S_gen_Mod] 1000 13 (inL A_gen_Sample [.int .i64 p0, .int .u16 p1])) (by kernel_rfl) (by kernel_rfl)


/-! compositor/blend.valid -/
def A_blend_valid : List PS := [.c (.i .i64)]
def R_blend_valid : RS := .one (.c (.b))
noncomputable def L_blend_valid (vs : List Value) : List Value := (evF Tryd.prog [] 1000 64 (inL A_blend_valid vs)).outL
noncomputable def S_blend_valid : Sum := ⟨64, L_blend_valid, A_blend_valid, R_blend_valid⟩
theorem ok_blend_valid : SumOK Tryd.prog Inv S_blend_valid := sumOK_ev inv_stays allOK_nil 1000 64 A_blend_valid R_blend_valid (fun _ => by kernel_rfl)
noncomputable def F_blend_valid (p0 : Int) : Bool := tru ((L_blend_valid [.int .i64 p0]).getD 0 undef)
theorem F_blend_valid_eq (p0 : Int) : F_blend_valid p0 =
    bif (decide (p0 ≥ 1)) then
      ((decide (p0 ≤ 12)))
    else
      (false) :=
  spell (fun l => tru ((l).getD 0 undef)) (evF Tryd.prog [] 1000 64 (inL A_blend_valid [.int .i64 p0])) (by kernel_rfl) (by kernel_rfl)

/-! compositor/blend.fraction -/
def A_blend_fraction : List PS := [.c (.i .u64), .c (.i .u64)]
def R_blend_fraction : RS := .one (.agg [.i .u64, .i .u64, .i .u64, .i .u64, .i .u64])
noncomputable def L_blend_fraction (vs : List Value) : List Value := (evF Tryd.prog [] 1000 77 (inL A_blend_fraction vs)).outL
noncomputable def S_blend_fraction : Sum := ⟨77, L_blend_fraction, A_blend_fraction, R_blend_fraction⟩
theorem ok_blend_fraction : SumOK Tryd.prog Inv S_blend_fraction := sumOK_ev inv_stays allOK_nil 1000 77 A_blend_fraction R_blend_fraction (fun _ => by kernel_rfl)
noncomputable def F_blend_fraction (p0 : Int) (p1 : Int) : Int × Int × Int × Int × Int := (num ((L_blend_fraction [.int .u64 p0, .int .u64 p1]).getD 0 undef), num ((L_blend_fraction [.int .u64 p0, .int .u64 p1]).getD 1 undef), num ((L_blend_fraction [.int .u64 p0, .int .u64 p1]).getD 2 undef), num ((L_blend_fraction [.int .u64 p0, .int .u64 p1]).getD 3 undef), num ((L_blend_fraction [.int .u64 p0, .int .u64 p1]).getD 4 undef))
theorem F_blend_fraction_eq (p0 : Int) (p1 : Int) : F_blend_fraction p0 p1 =
    (0, p0, 0, 0, p1) :=
  spell (fun l => (num ((l).getD 0 undef), num ((l).getD 1 undef), num ((l).getD 2 undef), num ((l).getD 3 undef), num ((l).getD 4 undef))) (evF Tryd.prog [] 1000 77 (inL A_blend_fraction [.int .u64 p0, .int .u64 p1])) (by kernel_rfl) (by kernel_rfl)

/-! compositor/blend.hard -/
def A_blend_hard : List PS := [.c (.i .u64), .c (.i .u64), .c (.i .u64), .c (.i .u64), .c (.b)]
def R_blend_hard : RS := .one (.c (.i .u64))
noncomputable def L_blend_hard (vs : List Value) : List Value := (evF Tryd.prog [] 1000 78 (inL A_blend_hard vs)).outL
noncomputable def S_blend_hard : Sum := ⟨78, L_blend_hard, A_blend_hard, R_blend_hard⟩
theorem ok_blend_hard : SumOK Tryd.prog Inv S_blend_hard := sumOK_ev inv_stays allOK_nil 1000 78 A_blend_hard R_blend_hard (fun _ => by kernel_rfl)
noncomputable def F_blend_hard (p0 : Int) (p1 : Int) (p2 : Int) (p3 : Int) (p4 : Bool) : Int := num ((L_blend_hard [.int .u64 p0, .int .u64 p1, .int .u64 p2, .int .u64 p3, .bool p4]).getD 0 undef)
theorem F_blend_hard_eq (p0 : Int) (p1 : Int) (p2 : Int) (p3 : Int) (p4 : Bool) : F_blend_hard p0 p1 p2 p3 p4 =
    bif p4 then
      ((IntKind.u64.wrap ((IntKind.u64.wrap (2 * p0)) * p2)))
    else
      ((IntKind.u64.wrap ((IntKind.u64.wrap (p1 * p3)) - (IntKind.u64.wrap ((IntKind.u64.wrap (2 * (IntKind.u64.wrap (p3 - p2)))) * (IntKind.u64.wrap (p1 - p0))))))) :=
  spell (fun l => num ((l).getD 0 undef)) (evF Tryd.prog [] 1000 78 (inL A_blend_hard [.int .u64 p0, .int .u64 p1, .int .u64 p2, .int .u64 p3, .bool p4])) (by kernel_rfl) (by kernel_rfl)

/-! compositor/blend.dodge -/
def A_blend_dodge : List PS := [.c (.i .u64), .c (.i .u64), .c (.i .u64), .c (.i .u64)]
def R_blend_dodge : RS := .one (.agg [.i .u64, .i .u64, .i .u64, .i .u64, .i .u64])
noncomputable def L_blend_dodge (vs : List Value) : List Value := (evF Tryd.prog [S_blend_fraction] 1000 79 (inL A_blend_dodge vs)).outL
noncomputable def S_blend_dodge : Sum := ⟨79, L_blend_dodge, A_blend_dodge, R_blend_dodge⟩
theorem ok_blend_dodge : SumOK Tryd.prog Inv S_blend_dodge := sumOK_ev inv_stays (allOK_cons ok_blend_fraction allOK_nil) 1000 79 A_blend_dodge R_blend_dodge (fun _ => by kernel_rfl)
noncomputable def F_blend_dodge (p0 : Int) (p1 : Int) (p2 : Int) (p3 : Int) : Int × Int × Int × Int × Int := (num ((L_blend_dodge [.int .u64 p0, .int .u64 p1, .int .u64 p2, .int .u64 p3]).getD 0 undef), num ((L_blend_dodge [.int .u64 p0, .int .u64 p1, .int .u64 p2, .int .u64 p3]).getD 1 undef), num ((L_blend_dodge [.int .u64 p0, .int .u64 p1, .int .u64 p2, .int .u64 p3]).getD 2 undef), num ((L_blend_dodge [.int .u64 p0, .int .u64 p1, .int .u64 p2, .int .u64 p3]).getD 3 undef), num ((L_blend_dodge [.int .u64 p0, .int .u64 p1, .int .u64 p2, .int .u64 p3]).getD 4 undef))
theorem F_blend_dodge_eq (p0 : Int) (p1 : Int) (p2 : Int) (p3 : Int) : F_blend_dodge p0 p1 p2 p3 =
    bif (p2 == 0) then
      (let x0 := F_blend_fraction 0 1
      (x0.1, x0.2.1, x0.2.2.1, x0.2.2.2.1, x0.2.2.2.2))
    else
      (bif (decide ((IntKind.u64.wrap (p2 * p1)) ≥ (IntKind.u64.wrap (p3 * (IntKind.u64.wrap (p1 - p0)))))) then
        (let x1 := F_blend_fraction (IntKind.u64.wrap (p1 * p3)) 1
        (x1.1, x1.2.1, x1.2.2.1, x1.2.2.2.1, x1.2.2.2.2))
      else
        (let x2 := F_blend_fraction (IntKind.u64.wrap ((IntKind.u64.wrap (p1 * p1)) * p2)) (IntKind.u64.wrap (p1 - p0))
        (x2.1, x2.2.1, x2.2.2.1, x2.2.2.2.1, x2.2.2.2.2))) :=
  spell (fun l => (num ((l).getD 0 undef), num ((l).getD 1 undef), num ((l).getD 2 undef), num ((l).getD 3 undef), num ((l).getD 4 undef))) (evF Tryd.prog [S_blend_fraction] 1000 79 (inL A_blend_dodge [.int .u64 p0, .int .u64 p1, .int .u64 p2, .int .u64 p3])) (by kernel_rfl) (by kernel_rfl)

/-! compositor/blend.burn -/
def A_blend_burn : List PS := [.c (.i .u64), .c (.i .u64), .c (.i .u64), .c (.i .u64)]
def R_blend_burn : RS := .one (.agg [.i .u64, .i .u64, .i .u64, .i .u64, .i .u64])
noncomputable def L_blend_burn (vs : List Value) : List Value := (evF Tryd.prog [S_blend_fraction] 1000 80 (inL A_blend_burn vs)).outL
noncomputable def S_blend_burn : Sum := ⟨80, L_blend_burn, A_blend_burn, R_blend_burn⟩
theorem ok_blend_burn : SumOK Tryd.prog Inv S_blend_burn := sumOK_ev inv_stays (allOK_cons ok_blend_fraction allOK_nil) 1000 80 A_blend_burn R_blend_burn (fun _ => by kernel_rfl)
noncomputable def F_blend_burn (p0 : Int) (p1 : Int) (p2 : Int) (p3 : Int) : Int × Int × Int × Int × Int := (num ((L_blend_burn [.int .u64 p0, .int .u64 p1, .int .u64 p2, .int .u64 p3]).getD 0 undef), num ((L_blend_burn [.int .u64 p0, .int .u64 p1, .int .u64 p2, .int .u64 p3]).getD 1 undef), num ((L_blend_burn [.int .u64 p0, .int .u64 p1, .int .u64 p2, .int .u64 p3]).getD 2 undef), num ((L_blend_burn [.int .u64 p0, .int .u64 p1, .int .u64 p2, .int .u64 p3]).getD 3 undef), num ((L_blend_burn [.int .u64 p0, .int .u64 p1, .int .u64 p2, .int .u64 p3]).getD 4 undef))
theorem F_blend_burn_eq (p0 : Int) (p1 : Int) (p2 : Int) (p3 : Int) : F_blend_burn p0 p1 p2 p3 =
    bif (p2 == p3) then
      (let x0 := F_blend_fraction (IntKind.u64.wrap (p1 * p3)) 1
      (x0.1, x0.2.1, x0.2.2.1, x0.2.2.2.1, x0.2.2.2.2))
    else
      (bif (decide ((IntKind.u64.wrap ((IntKind.u64.wrap (p3 - p2)) * p1)) ≥ (IntKind.u64.wrap (p0 * p3)))) then
        (let x1 := F_blend_fraction 0 1
        (x1.1, x1.2.1, x1.2.2.1, x1.2.2.2.1, x1.2.2.2.2))
      else
        (let x2 := F_blend_fraction (IntKind.u64.wrap ((IntKind.u64.wrap ((IntKind.u64.wrap (p1 * p3)) * p0)) - (IntKind.u64.wrap ((IntKind.u64.wrap ((IntKind.u64.wrap (p3 - p2)) * p1)) * p1)))) p0
        (x2.1, x2.2.1, x2.2.2.1, x2.2.2.2.1, x2.2.2.2.2))) :=
  spell (fun l => (num ((l).getD 0 undef), num ((l).getD 1 undef), num ((l).getD 2 undef), num ((l).getD 3 undef), num ((l).getD 4 undef))) (evF Tryd.prog [S_blend_fraction] 1000 80 (inL A_blend_burn [.int .u64 p0, .int .u64 p1, .int .u64 p2, .int .u64 p3])) (by kernel_rfl) (by kernel_rfl)

/-! compositor/blend.soft -/
def A_blend_soft : List PS := [.c (.i .u64), .c (.i .u64), .c (.i .u64), .c (.i .u64)]
def R_blend_soft : RS := .one (.agg [.i .u64, .i .u64, .i .u64, .i .u64, .i .u64])
noncomputable def L_blend_soft (vs : List Value) : List Value := (evF Tryd.prog [S_blend_fraction] 1000 81 (inL A_blend_soft vs)).outL
noncomputable def S_blend_soft : Sum := ⟨81, L_blend_soft, A_blend_soft, R_blend_soft⟩
theorem ok_blend_soft : SumOK Tryd.prog Inv S_blend_soft := sumOK_ev inv_stays (allOK_cons ok_blend_fraction allOK_nil) 1000 81 A_blend_soft R_blend_soft (fun _ => by kernel_rfl)
noncomputable def F_blend_soft (p0 : Int) (p1 : Int) (p2 : Int) (p3 : Int) : Int × Int × Int × Int × Int := (num ((L_blend_soft [.int .u64 p0, .int .u64 p1, .int .u64 p2, .int .u64 p3]).getD 0 undef), num ((L_blend_soft [.int .u64 p0, .int .u64 p1, .int .u64 p2, .int .u64 p3]).getD 1 undef), num ((L_blend_soft [.int .u64 p0, .int .u64 p1, .int .u64 p2, .int .u64 p3]).getD 2 undef), num ((L_blend_soft [.int .u64 p0, .int .u64 p1, .int .u64 p2, .int .u64 p3]).getD 3 undef), num ((L_blend_soft [.int .u64 p0, .int .u64 p1, .int .u64 p2, .int .u64 p3]).getD 4 undef))
theorem F_blend_soft_eq (p0 : Int) (p1 : Int) (p2 : Int) (p3 : Int) : F_blend_soft p0 p1 p2 p3 =
    bif (p3 == 0) then
      (let x0 := F_blend_fraction 0 1
      (x0.1, x0.2.1, x0.2.2.1, x0.2.2.2.1, x0.2.2.2.2))
    else
      (bif (decide ((IntKind.u64.wrap (2 * p0)) ≤ p1)) then
        (let x1 := F_blend_fraction (IntKind.u64.wrap ((IntKind.u64.wrap ((IntKind.u64.wrap (p2 * p1)) * p3)) - (IntKind.u64.wrap ((IntKind.u64.wrap ((IntKind.u64.wrap (p1 - (IntKind.u64.wrap (2 * p0)))) * p2)) * (IntKind.u64.wrap (p3 - p2)))))) p3
        (x1.1, x1.2.1, x1.2.2.1, x1.2.2.2.1, x1.2.2.2.2))
      else
        (bif (decide ((IntKind.u64.wrap (4 * p2)) ≤ p3)) then
          (let x2 := F_blend_fraction (IntKind.u64.wrap ((IntKind.u64.wrap ((IntKind.u64.wrap ((IntKind.u64.wrap (p2 * p1)) * p3)) * p3)) + (IntKind.u64.wrap ((IntKind.u64.wrap ((IntKind.u64.wrap ((IntKind.u64.wrap (2 * p0)) - p1)) * p2)) * (IntKind.u64.wrap ((IntKind.u64.wrap ((IntKind.u64.wrap ((IntKind.u64.wrap (16 * p2)) * p2)) + (IntKind.u64.wrap ((IntKind.u64.wrap (3 * p3)) * p3)))) - (IntKind.u64.wrap ((IntKind.u64.wrap (12 * p2)) * p3)))))))) (IntKind.u64.wrap (p3 * p3))
          (x2.1, x2.2.1, x2.2.2.1, x2.2.2.2.1, x2.2.2.2.2))
        else
          (let x3 := F_blend_fraction (IntKind.u64.wrap ((IntKind.u64.wrap (2 * p2)) * (IntKind.u64.wrap (p1 - p0)))) 1
          (x3.1, x3.2.1, (IntKind.u64.wrap ((IntKind.u64.wrap (2 * p0)) - p1)), (IntKind.u64.wrap (p2 * p3)), x3.2.2.2.2)))) :=
  spell (fun l => (num ((l).getD 0 undef), num ((l).getD 1 undef), num ((l).getD 2 undef), num ((l).getD 3 undef), num ((l).getD 4 undef))) (evF Tryd.prog [S_blend_fraction] 1000 81 (inL A_blend_soft [.int .u64 p0, .int .u64 p1, .int .u64 p2, .int .u64 p3])) (by kernel_rfl) (by kernel_rfl)

/-! compositor/blend.term -/
def A_blend_term : List PS := [.c (.i .i64), .c (.i .u64), .c (.i .u64), .c (.i .u64), .c (.i .u64)]
def R_blend_term : RS := .one (.agg [.i .u64, .i .u64, .i .u64, .i .u64, .i .u64])
noncomputable def L_blend_term (vs : List Value) : List Value := (evF Tryd.prog [S_blend_fraction, S_blend_hard, S_blend_dodge, S_blend_burn, S_blend_soft] 1000 65 (inL A_blend_term vs)).outL
noncomputable def S_blend_term : Sum := ⟨65, L_blend_term, A_blend_term, R_blend_term⟩
theorem ok_blend_term : SumOK Tryd.prog Inv S_blend_term := sumOK_ev inv_stays (allOK_cons ok_blend_fraction (allOK_cons ok_blend_hard (allOK_cons ok_blend_dodge (allOK_cons ok_blend_burn (allOK_cons ok_blend_soft allOK_nil))))) 1000 65 A_blend_term R_blend_term (fun _ => by kernel_rfl)
noncomputable def F_blend_term (p0 : Int) (p1 : Int) (p2 : Int) (p3 : Int) (p4 : Int) : Int × Int × Int × Int × Int := (num ((L_blend_term [.int .i64 p0, .int .u64 p1, .int .u64 p2, .int .u64 p3, .int .u64 p4]).getD 0 undef), num ((L_blend_term [.int .i64 p0, .int .u64 p1, .int .u64 p2, .int .u64 p3, .int .u64 p4]).getD 1 undef), num ((L_blend_term [.int .i64 p0, .int .u64 p1, .int .u64 p2, .int .u64 p3, .int .u64 p4]).getD 2 undef), num ((L_blend_term [.int .i64 p0, .int .u64 p1, .int .u64 p2, .int .u64 p3, .int .u64 p4]).getD 3 undef), num ((L_blend_term [.int .i64 p0, .int .u64 p1, .int .u64 p2, .int .u64 p3, .int .u64 p4]).getD 4 undef))
theorem F_blend_term_eq (p0 : Int) (p1 : Int) (p2 : Int) (p3 : Int) (p4 : Int) : F_blend_term p0 p1 p2 p3 p4 =
    bif (p0 == 1) then
      (let x0 := F_blend_fraction (IntKind.u64.wrap (p1 * p4)) 1
      (x0.1, x0.2.1, x0.2.2.1, x0.2.2.2.1, x0.2.2.2.2))
    else
      (bif (p0 == 2) then
        (let x1 := F_blend_fraction (IntKind.u64.wrap (p1 * p3)) 1
        (x1.1, x1.2.1, x1.2.2.1, x1.2.2.2.1, x1.2.2.2.2))
      else
        (bif (p0 == 3) then
          (let x2 := F_blend_fraction (IntKind.u64.wrap ((IntKind.u64.wrap ((IntKind.u64.wrap (p1 * p4)) + (IntKind.u64.wrap (p3 * p2)))) - (IntKind.u64.wrap (p1 * p3)))) 1
          (x2.1, x2.2.1, x2.2.2.1, x2.2.2.2.1, x2.2.2.2.2))
        else
          (bif (p0 == 4) then
            (let x3 := F_blend_hard p1 p2 p3 p4 (decide ((IntKind.u64.wrap (2 * p3)) ≤ p4))
            let x4 := F_blend_fraction x3 1
            (x4.1, x4.2.1, x4.2.2.1, x4.2.2.2.1, x4.2.2.2.2))
          else
            (bif (p0 == 5) then
              (let x5 := F_blend_fraction (if (IntKind.u64.wrap (p3 * p2)) < (IntKind.u64.wrap (p1 * p4)) then (IntKind.u64.wrap (p3 * p2)) else (IntKind.u64.wrap (p1 * p4))) 1
              (x5.1, x5.2.1, x5.2.2.1, x5.2.2.2.1, x5.2.2.2.2))
            else
              (bif (p0 == 6) then
                (let x6 := F_blend_fraction (if (IntKind.u64.wrap (p3 * p2)) > (IntKind.u64.wrap (p1 * p4)) then (IntKind.u64.wrap (p3 * p2)) else (IntKind.u64.wrap (p1 * p4))) 1
                (x6.1, x6.2.1, x6.2.2.1, x6.2.2.2.1, x6.2.2.2.2))
              else
                (bif (p0 == 7) then
                  (let x7 := F_blend_dodge p1 p2 p3 p4
                  (x7.1, x7.2.1, x7.2.2.1, x7.2.2.2.1, x7.2.2.2.2))
                else
                  (bif (p0 == 8) then
                    (let x8 := F_blend_burn p1 p2 p3 p4
                    (x8.1, x8.2.1, x8.2.2.1, x8.2.2.2.1, x8.2.2.2.2))
                  else
                    (bif (p0 == 9) then
                      (let x9 := F_blend_hard p1 p2 p3 p4 (decide ((IntKind.u64.wrap (2 * p1)) ≤ p2))
                      let x10 := F_blend_fraction x9 1
                      (x10.1, x10.2.1, x10.2.2.1, x10.2.2.2.1, x10.2.2.2.2))
                    else
                      (bif (p0 == 10) then
                        (let x11 := F_blend_soft p1 p2 p3 p4
                        (x11.1, x11.2.1, x11.2.2.1, x11.2.2.2.1, x11.2.2.2.2))
                      else
                        (bif (p0 == 11) then
                          (let x12 := F_blend_fraction (IntKind.u64.wrap ((if (IntKind.u64.wrap (p3 * p2)) > (IntKind.u64.wrap (p1 * p4)) then (IntKind.u64.wrap (p3 * p2)) else (IntKind.u64.wrap (p1 * p4))) - (if (IntKind.u64.wrap (p3 * p2)) < (IntKind.u64.wrap (p1 * p4)) then (IntKind.u64.wrap (p3 * p2)) else (IntKind.u64.wrap (p1 * p4))))) 1
                          (x12.1, x12.2.1, x12.2.2.1, x12.2.2.2.1, x12.2.2.2.2))
                        else
                          (let x13 := F_blend_fraction (IntKind.u64.wrap ((IntKind.u64.wrap ((IntKind.u64.wrap (p1 * p4)) + (IntKind.u64.wrap (p3 * p2)))) - (IntKind.u64.wrap ((IntKind.u64.wrap (2 * p1)) * p3)))) 1
                          (x13.1, x13.2.1, x13.2.2.1, x13.2.2.2.1, x13.2.2.2.2)))))))))))) :=
  spell (fun l => (num ((l).getD 0 undef), num ((l).getD 1 undef), num ((l).getD 2 undef), num ((l).getD 3 undef), num ((l).getD 4 undef))) (evF Tryd.prog [S_blend_fraction, S_blend_hard, S_blend_dodge, S_blend_burn, S_blend_soft] 1000 65 (inL A_blend_term [.int .i64 p0, .int .u64 p1, .int .u64 p2, .int .u64 p3, .int .u64 p4])) (by kernel_rfl) (by kernel_rfl)

/-! compositor/blend.Exact -/
def A_blend_Exact : List PS := [.c (.i .i64), .c (.i .u16), .c (.i .u16), .c (.i .u16), .c (.i .u16)]
def R_blend_Exact : RS := .tup [.agg [.i .u64, .i .u64, .i .u64, .i .u64, .i .u64], .c (.b)]
noncomputable def L_blend_Exact (vs : List Value) : List Value := (evF Tryd.prog [S_blend_valid, S_blend_term] 1000 56 (inL A_blend_Exact vs)).outL
noncomputable def S_blend_Exact : Sum := ⟨56, L_blend_Exact, A_blend_Exact, R_blend_Exact⟩
theorem ok_blend_Exact : SumOK Tryd.prog Inv S_blend_Exact := sumOK_ev inv_stays (allOK_cons ok_blend_valid (allOK_cons ok_blend_term allOK_nil)) 1000 56 A_blend_Exact R_blend_Exact (fun _ => by kernel_rfl)
noncomputable def F_blend_Exact (p0 : Int) (p1 : Int) (p2 : Int) (p3 : Int) (p4 : Int) : Int × Int × Int × Int × Int × Bool := (num ((L_blend_Exact [.int .i64 p0, .int .u16 p1, .int .u16 p2, .int .u16 p3, .int .u16 p4]).getD 0 undef), num ((L_blend_Exact [.int .i64 p0, .int .u16 p1, .int .u16 p2, .int .u16 p3, .int .u16 p4]).getD 1 undef), num ((L_blend_Exact [.int .i64 p0, .int .u16 p1, .int .u16 p2, .int .u16 p3, .int .u16 p4]).getD 2 undef), num ((L_blend_Exact [.int .i64 p0, .int .u16 p1, .int .u16 p2, .int .u16 p3, .int .u16 p4]).getD 3 undef), num ((L_blend_Exact [.int .i64 p0, .int .u16 p1, .int .u16 p2, .int .u16 p3, .int .u16 p4]).getD 4 undef), tru ((L_blend_Exact [.int .i64 p0, .int .u16 p1, .int .u16 p2, .int .u16 p3, .int .u16 p4]).getD 5 undef))
theorem F_blend_Exact_eq (p0 : Int) (p1 : Int) (p2 : Int) (p3 : Int) (p4 : Int) : F_blend_Exact p0 p1 p2 p3 p4 =
    let x0 := F_blend_valid p0
    bif (!x0) then
      ((0, 0, 0, 0, 0, false))
    else
      (bif (decide (p1 > p2)) then
        ((0, 0, 0, 0, 0, false))
      else
        (bif (decide (p3 > p4)) then
          ((0, 0, 0, 0, 0, false))
        else
          (let x1 := F_blend_term p0 p1 p2 p3 p4
          (x1.1, x1.2.1, x1.2.2.1, x1.2.2.2.1, x1.2.2.2.2, true)))) :=
  spell (fun l => (num ((l).getD 0 undef), num ((l).getD 1 undef), num ((l).getD 2 undef), num ((l).getD 3 undef), num ((l).getD 4 undef), tru ((l).getD 5 undef))) (evF Tryd.prog [S_blend_valid, S_blend_term] 1000 56 (inL A_blend_Exact [.int .i64 p0, .int .u16 p1, .int .u16 p2, .int .u16 p3, .int .u16 p4])) (by kernel_rfl) (by kernel_rfl)












end Go.Proofs.YtdioaiepkhepaaaDoor
